/- Walks: the Go text computes the Lean functions (printed by a program of our own). -/
import Derived.Test.YtepdfenlkeaefaaFPu
import Derived.Test.YtepdfenlkeaefaaFAbsT
import Derived.Test.YtepdfenlkeaefaaFWa0
set_option linter.unusedVariables false
set_option linter.unusedSimpArgs false
set_option maxRecDepth 100000
set_option maxHeartbeats 4000000
namespace Go.TF
open Go Go.Abs Go.Proofs Go.Proofs.YtepdfenlkeaefaaFT
theorem w_mill_Light (k : Nat) (v0 : (List Int)) (v1 : Bool) (hF : mill_Light k v0 = some v1) :
  FCall Try.prog 16 [AV.lst false false (List.map (AV.int .i64) v0)] [] (AV.bool v1) [] := by
 unfold mill_Light at hF
 refine EN Try.func16 ?_
 intro c0 w0 Q h0 hQ
 refine WK [(0, Lz v0)] [] 0 (by simp) (by simp) ?_
 refine SQ [] [none] fun _ _ g r => ?_
 try simp
 and_intros <;> first | exact g _ (by kernel_rfl) | refine r _ _ _ ?_ | omega | (simp [maxLen] <;> omega)
 refine WK [(0, Lz v0)] [] 0 (by simp) (by simp) ?_
 refine SQ [] [none, none, none, none] fun _ _ g r => ?_
 try simp
 and_intros <;> first | exact g _ (by kernel_rfl) | refine r _ _ _ ?_ | omega | (simp [maxLen] <;> omega)
 refine WK [(2, AV.bool (decide ((v0.length : Int) ≤ 400)))] [] 0 (by simp) (by simp) ?_
 simp only [Option.some.injEq] at hF
 subst hF
 refine AW.ret (hQ _ _ _ ?_ (matchO_0 ?_)).1
 ·simp [Try.f16]
 ·simp
theorem w_guardian_key (k : Nat) (v0 : Int) (v1 : Bool) (hF : guardian_key k v0 = some v1) :
  FCall Try.prog 77 [AV.int .i64 v0] [] (AV.bool v1) [] := by
 unfold guardian_key at hF
 refine EN Try.func77 ?_
 intro c0 w0 Q h0 hQ
 refine WK [(0, Iz v0)] [] 0 (by simp) (by simp) ?_
 refine SQ [] [none] fun _ _ g r => ?_
 try simp
 and_intros <;> first | exact g _ (by kernel_rfl) | refine r _ _ _ ?_ | omega | (simp [maxLen] <;> omega)
 refine WK [(0, Iz v0)] [] 0 (by simp) (by simp) ?_
 refine SQ [] [none, none, none, some (5, true), some (5, true), none, none] fun _ _ g r => ?_
 by_cases h1 : 0 ≤ v0
 ·replace hF := ite_t h1 hF
  have h1_ := h1
  try simp at h1_
  try simp [h1, h1_]
  and_intros <;> first | exact g _ (by kernel_rfl) | refine r _ _ _ ?_ | omega | (simp [h1, h1_, maxLen] <;> omega)
  refine WK [(2, AV.bool (decide (v0 < 64)))] [] 0 (by simp [h1, h1_]) (by simp [h1, h1_]) ?_
  simp only [Option.some.injEq] at hF
  subst hF
  refine AW.ret (hQ _ _ _ ?_ (matchO_0 ?_)).1
  ·simp [Try.f77, h1, h1_]
  ·simp [h1, h1_]
 ·replace hF := ite_f h1 hF
  have h1_ := h1
  try simp at h1_
  try simp [h1, h1_]
  and_intros <;> first | exact g _ (by kernel_rfl) | refine r _ _ _ ?_ | omega | (simp [h1, h1_, maxLen] <;> omega)
  refine WK [(2, AV.bool false)] [] 0 (by simp [h1, h1_]) (by simp [h1, h1_]) ?_
  simp only [Option.some.injEq] at hF
  subst hF
  refine AW.ret (hQ _ _ _ ?_ (matchO_0 ?_)).1
  ·simp [Try.f77, h1, h1_]
  ·simp [h1, h1_]
theorem w_guardian_Valid (k : Nat) (v0 : Int) (v1 : Int) (v2 : (List Int)) (v3 : Bool) (hF : guardian_Valid k v0 v1 v2 = some v3) :
  FCall Try.prog 36 [AV.agg [AV.int .i64 v0, AV.int .i64 v1, AV.lst false false (List.map (AV.int .i64) v2)]] [] (AV.bool v3) [] := by
 unfold guardian_Valid at hF
 refine EN Try.func36 ?_
 intro c0 w0 Q h0 hQ
 refine WK [(0, AV.agg [Iz v0, Iz v1, Lz v2])] [] 0 (by simp) (by simp) ?_
 refine SQ [] [none, none] fun _ _ g r => ?_
 try simp
 and_intros <;> first | exact g _ (by kernel_rfl) | refine r _ _ _ ?_ | omega | (simp [maxLen] <;> omega)
 refine WK [(1, AV.ptr 0 0)] [(0, .cells [Iz v0, Iz v1, Lz v2])] 1 (by simp) (by simp) ?_
 refine AW.seq fun K168 hK168 => ?_
 refine SQ [] [none, none, none, none] fun _ _ g r => ?_
 try simp
 and_intros <;> first | exact g _ (by kernel_rfl) | refine r _ _ _ ?_ | omega | (simp [maxLen] <;> omega)
 refine WK [(1, AV.ptr 0 0), (7, Lz v2), (8, Iz (v2.length : Int)), (9, Iz 0)] [(0, .cells [Iz v0, Iz v1, Lz v2])] 1 (by simp) (by simp) ?_
 refine AW.block ?_
 refine AW.loopF (α := Int) (fun n v4 => guardian_Valid.L1 k v0 v1 v2 n v4 = some v3) (fun v4 => [(1, AV.ptr 0 0), (7, Lz v2), (8, Iz (v2.length : Int)), (9, Iz v4)]) (fun v4 => [(0, .cells [Iz v0, Iz v1, Lz v2])]) 1 k (0) hF (by simp) (by simp) (by simp) ?_
 rintro (_|n1) v4 hF K208 hK208
 ·try dsimp only at hF
  rw [guardian_Valid.L1] at hF; cases hF
 try dsimp only at hF
 rw [guardian_Valid.L1] at hF
 refine SQ [] [none] fun _ _ g r => ?_
 try simp
 and_intros <;> first | exact g _ (by kernel_rfl) | refine r _ _ _ ?_ | omega | (simp [maxLen] <;> omega)
 refine WK [(1, AV.ptr 0 0), (7, Lz v2), (8, Iz (v2.length : Int)), (9, Iz v4), (10, AV.bool (decide (v4 < (v2.length : Int))))] [(0, .cells [Iz v0, Iz v1, Lz v2])] 1 (by simp) (by simp) ?_
 refine AW.seq fun K210 hK210 => ?_
 by_cases h1 : v4 < (v2.length : Int)
 ·replace hF := ite_t h1 hF
  have h1_ := h1
  try simp at h1_
  refine CT (by simp [h1, h1_] <;> omega) ?_
  refine AW.skip ?_
  refine hK210 _ _ _ ?_
  refine AW.midF (α := Unit) (fun _ => guardian_Valid.J2 k v4 (fun v4_ => guardian_Valid.L1 k v0 v1 v2 n1 v4_) = some v3) (fun _ => [(1, AV.ptr 0 0), (7, Lz v2), (8, Iz (v2.length : Int)), (9, Iz v4)]) (fun _ => [(0, .cells [Iz v0, Iz v1, Lz v2])]) 1 (fun K217 hK217 => ?_) ?_
  ·refine AW.block ?_
   refine SQ [] [none, none, none, none, none] fun _ _ g r => ?_
   obtain ⟨v5, h2, h3, h4, hF⟩ := idx_elim hF
   have h4_ := get_of h4
   try simp at h4_
   have h3_ := h3
   try simp at h3_
   have F1 := And.intro h1 (And.intro h1_ (And.intro h2 (And.intro h3 (And.intro h4 (And.intro h4_ h3_)))))
   try simp [F1]
   and_intros <;> first | exact g _ (by kernel_rfl) | refine r _ _ _ ?_ | omega | (simp [maxLen, F1] <;> omega)
   refine WK [(1, AV.ptr 0 0), (3, Iz v4), (4, Iz v5), (7, Lz v2), (8, Iz (v2.length : Int)), (9, Iz v4)] [(0, .cells [Iz v0, Iz v1, Lz v2])] 1 (by simp [F1]) (by simp [F1]) ?_
   refine SQ [] [none, none, none, none, some (17, false), some (17, false), some (17, false), some (17, false), none, none, some (23, false), some (23, false), some (23, false), some (26, true), some (26, true), some (26, true), some (26, true), some (26, true), some (26, true), some (26, true), some (26, true), some (23, false), none] fun _ _ g r => ?_
   try simp [F1]
   and_intros
   try any_goals first | omega | (simp [maxLen, F1] <;> omega)
   obtain ⟨v6, h5, hF⟩ := bnd1_elim hF
   refine AC (w_guardian_key k _ _ h5) (.cons (.same (by simp [F1])) .nil) ?_
   by_cases h6 : (!v6) = true
   ·replace hF := ite_t h6 hF
    have h6_ := h6
    try simp at h6_
    have F2 := And.intro F1 (And.intro h6 h6_)
    try simp [F2]
    and_intros <;> first | exact g _ (by kernel_rfl) | refine r _ _ _ ?_ | omega | (simp [maxLen, F2] <;> omega)
    refine WK [(1, AV.ptr 0 0), (7, Lz v2), (8, Iz (v2.length : Int)), (9, Iz v4), (36, AV.bool true)] [(0, .cells [Iz v0, Iz v1, Lz v2])] 1 (by simp [F2]) (by simp [F2]) ?_
    refine CT (by simp [F2]) ?_
    refine SQ [] [none] fun _ _ g r => ?_
    try simp [F2]
    and_intros <;> first | exact g _ (by kernel_rfl) | refine r _ _ _ ?_ | omega | (simp [maxLen, F2] <;> omega)
    refine WK [(2, AV.bool false)] [] 1 (by simp [F2]) (by simp [F2]) ?_
    simp only [Option.some.injEq] at hF
    subst hF
    refine AW.ret (hQ _ _ _ ?_ (matchO_0 ?_)).1
    ·simp [Try.f36, F2]
    ·simp [F2]
   ·replace hF := ite_f h6 hF
    have h6_ := h6
    try simp at h6_
    by_cases h7 : v5 = v0
    ·replace hF := ite_t h7 hF
     have h7q : v5 = v0 := h7
     have h7_ := eqb_t h7q
     have h7__ := neb_f h7q
     have F3 := And.intro F1 (And.intro h6 (And.intro h6_ (And.intro h7_ h7__)))
     try simp [F3]
     and_intros <;> first | exact g _ (by kernel_rfl) | refine r _ _ _ ?_ | omega | (simp [maxLen, F3] <;> omega)
     refine WK [(1, AV.ptr 0 0), (7, Lz v2), (8, Iz (v2.length : Int)), (9, Iz v4), (36, AV.bool true)] [(0, .cells [Iz v0, Iz v1, Lz v2])] 1 (by simp [F3]) (by simp [F3]) ?_
     refine CT (by simp [F3]) ?_
     refine SQ [] [none] fun _ _ g r => ?_
     try simp [F3]
     and_intros <;> first | exact g _ (by kernel_rfl) | refine r _ _ _ ?_ | omega | (simp [maxLen, F3] <;> omega)
     refine WK [(2, AV.bool false)] [] 1 (by simp [F3]) (by simp [F3]) ?_
     simp only [Option.some.injEq] at hF
     subst hF
     refine AW.ret (hQ _ _ _ ?_ (matchO_0 ?_)).1
     ·simp [Try.f36, F3]
     ·simp [F3]
    ·replace hF := ite_f h7 hF
     have h7_ := eqb_f h7
     have h7__ := neb_t h7
     by_cases h8 : 0 < v4
     ·replace hF := ite_t h8 hF
      have h8_ := h8
      try simp at h8_
      obtain ⟨v7, h9, h10, h11, hF⟩ := idx_elim hF
      have h11_ := get_of h11
      try simp at h11_
      have h10_ := h10
      try simp at h10_
      have F4 := And.intro F1 (And.intro h6 (And.intro h6_ (And.intro h7 (And.intro h7_ (And.intro h7__ (And.intro h8 (And.intro h8_ (And.intro h9 (And.intro h10 (And.intro h11 (And.intro h11_ h10_)))))))))))
      try simp [F4]
      and_intros <;> first | exact g _ (by kernel_rfl) | refine r _ _ _ ?_ | omega | (simp [maxLen, F4] <;> omega)
      refine WK [(1, AV.ptr 0 0), (7, Lz v2), (8, Iz (v2.length : Int)), (9, Iz v4), (36, AV.bool (decide (v5 ≤ v7)))] [(0, .cells [Iz v0, Iz v1, Lz v2])] 1 (by simp [F4]) (by simp [F4]) ?_
      by_cases h12 : v5 ≤ v7
      ·replace hF := ite_t h12 hF
       have h12_ := h12
       try simp at h12_
       have F5 := And.intro F4 (And.intro h12 h12_)
       refine CT (by simp [F5] <;> omega) ?_
       refine SQ [] [none] fun _ _ g r => ?_
       try simp [F5]
       and_intros <;> first | exact g _ (by kernel_rfl) | refine r _ _ _ ?_ | omega | (simp [maxLen, F5] <;> omega)
       refine WK [(2, AV.bool false)] [] 1 (by simp [F5]) (by simp [F5]) ?_
       simp only [Option.some.injEq] at hF
       subst hF
       refine AW.ret (hQ _ _ _ ?_ (matchO_0 ?_)).1
       ·simp [Try.f36, F5]
       ·simp [F5]
      ·replace hF := ite_f h12 hF
       have h12_ := h12
       try simp at h12_
       have F6 := And.intro F4 (And.intro h12 h12_)
       refine CF (by simp [F6] <;> omega) ?_
       refine AW.skip ?_
       refine hK217 _ _ _ ?_
       exact Can.join (()) hF (by simp [F6]) (by simp [F6]) (by simp)
     ·replace hF := ite_f h8 hF
      have h8_ := h8
      try simp at h8_
      have F7 := And.intro F1 (And.intro h6 (And.intro h6_ (And.intro h7 (And.intro h7_ (And.intro h7__ (And.intro h8 h8_))))))
      try simp [F7]
      and_intros <;> first | exact g _ (by kernel_rfl) | refine r _ _ _ ?_ | omega | (simp [maxLen, F7] <;> omega)
      refine WK [(1, AV.ptr 0 0), (7, Lz v2), (8, Iz (v2.length : Int)), (9, Iz v4), (36, AV.bool false)] [(0, .cells [Iz v0, Iz v1, Lz v2])] 1 (by simp [F7]) (by simp [F7]) ?_
      refine CF (by simp [F7]) ?_
      refine AW.skip ?_
      refine hK217 _ _ _ ?_
      exact Can.join (()) hF (by simp [F7]) (by simp [F7]) (by simp)
  ·rintro ⟨⟩ hF
   try dsimp only at hF
   unfold guardian_Valid.J2 at hF
   refine RG [] [none, none] fun _ _ g r => ?_
   try simp [h1, h1_]
   and_intros <;> first | exact g _ (by kernel_rfl) | refine r _ _ _ ?_ | omega | (simp [h1, h1_, maxLen] <;> omega)
   refine hK208 _ _ _ ?_
   exact Can.next (k' := n1) (IntKind.wrap .i64 (v4 + 1)) (by omega) hF (by simp [h1, h1_]) (by simp [h1, h1_]) (by simp)
 ·replace hF := ite_f h1 hF
  have h1_ := h1
  try simp at h1_
  refine CF (by simp [h1, h1_] <;> omega) ?_
  refine AW.exit ?_
  try simp
  refine hK168 _ _ _ ?_
  refine SQ [] [none, none, none, none] fun _ _ g r => ?_
  try simp [h1, h1_]
  and_intros <;> first | exact g _ (by kernel_rfl) | refine r _ _ _ ?_ | omega | (simp [h1, h1_, maxLen] <;> omega)
  refine WK [(1, AV.ptr 0 0), (5, Iz (v2.length : Int))] [(0, .cells [Iz v0, Iz v1, Lz v2])] 1 (by simp [h1, h1_]) (by simp [h1, h1_]) ?_
  refine SQ [] [none, none, none, none, some (44, true), some (44, true), none, none, some (48, true), some (48, true), none, none, some (52, true), some (52, true), some (52, true), none, none, some (57, true), some (57, true), some (57, true), some (57, true), none, none] fun _ _ g r => ?_
  try simp [h1, h1_]
  and_intros
  try any_goals first | omega | (simp [h1, h1_, maxLen] <;> omega)
  obtain ⟨v8, h13, hF⟩ := bnd1_elim hF
  refine AC (w_guardian_key k _ _ h13) (.cons (.same (by simp [h1, h1_])) .nil) ?_
  by_cases h14 : v8 = true
  ·replace hF := ite_t h14 hF
   have h14_ := h14
   try simp at h14_
   by_cases h15 : 1 ≤ (v2.length : Int)
   ·replace hF := ite_t h15 hF
    have h15_ := h15
    try simp at h15_
    by_cases h16 : (v2.length : Int) ≤ 12
    ·replace hF := ite_t h16 hF
     have h16_ := h16
     try simp at h16_
     by_cases h17 : 1 ≤ v1
     ·replace hF := ite_t h17 hF
      have h17_ := h17
      try simp at h17_
      have F8 := And.intro h1 (And.intro h1_ (And.intro h14 (And.intro h14_ (And.intro h15 (And.intro h15_ (And.intro h16 (And.intro h16_ (And.intro h17 h17_))))))))
      try simp [F8]
      and_intros <;> first | exact g _ (by kernel_rfl) | refine r _ _ _ ?_ | omega | (simp [maxLen, F8] <;> omega)
      refine WK [(2, AV.bool (decide (v1 ≤ (v2.length : Int))))] [] 1 (by simp [F8]) (by simp [F8]) ?_
      simp only [Option.some.injEq] at hF
      subst hF
      refine AW.ret (hQ _ _ _ ?_ (matchO_0 ?_)).1
      ·simp [Try.f36, F8]
      ·simp [F8]
     ·replace hF := ite_f h17 hF
      have h17_ := h17
      try simp at h17_
      have F9 := And.intro h1 (And.intro h1_ (And.intro h14 (And.intro h14_ (And.intro h15 (And.intro h15_ (And.intro h16 (And.intro h16_ (And.intro h17 h17_))))))))
      try simp [F9]
      and_intros <;> first | exact g _ (by kernel_rfl) | refine r _ _ _ ?_ | omega | (simp [maxLen, F9] <;> omega)
      refine WK [(2, AV.bool false)] [] 1 (by simp [F9]) (by simp [F9]) ?_
      simp only [Option.some.injEq] at hF
      subst hF
      refine AW.ret (hQ _ _ _ ?_ (matchO_0 ?_)).1
      ·simp [Try.f36, F9]
      ·simp [F9]
    ·replace hF := ite_f h16 hF
     have h16_ := h16
     try simp at h16_
     have F10 := And.intro h1 (And.intro h1_ (And.intro h14 (And.intro h14_ (And.intro h15 (And.intro h15_ (And.intro h16 h16_))))))
     try simp [F10]
     and_intros <;> first | exact g _ (by kernel_rfl) | refine r _ _ _ ?_ | omega | (simp [maxLen, F10] <;> omega)
     refine WK [(2, AV.bool false)] [] 1 (by simp [F10]) (by simp [F10]) ?_
     simp only [Option.some.injEq] at hF
     subst hF
     refine AW.ret (hQ _ _ _ ?_ (matchO_0 ?_)).1
     ·simp [Try.f36, F10]
     ·simp [F10]
   ·replace hF := ite_f h15 hF
    have h15_ := h15
    try simp at h15_
    have F11 := And.intro h1 (And.intro h1_ (And.intro h14 (And.intro h14_ (And.intro h15 h15_))))
    try simp [F11]
    and_intros <;> first | exact g _ (by kernel_rfl) | refine r _ _ _ ?_ | omega | (simp [maxLen, F11] <;> omega)
    refine WK [(2, AV.bool false)] [] 1 (by simp [F11]) (by simp [F11]) ?_
    simp only [Option.some.injEq] at hF
    subst hF
    refine AW.ret (hQ _ _ _ ?_ (matchO_0 ?_)).1
    ·simp [Try.f36, F11]
    ·simp [F11]
  ·replace hF := ite_f h14 hF
   have h14_ := h14
   try simp at h14_
   have F12 := And.intro h1 (And.intro h1_ (And.intro h14 h14_))
   try simp [F12]
   and_intros <;> first | exact g _ (by kernel_rfl) | refine r _ _ _ ?_ | omega | (simp [maxLen, F12] <;> omega)
   refine WK [(2, AV.bool false)] [] 1 (by simp [F12]) (by simp [F12]) ?_
   simp only [Option.some.injEq] at hF
   subst hF
   refine AW.ret (hQ _ _ _ ?_ (matchO_0 ?_)).1
   ·simp [Try.f36, F12]
   ·simp [F12]
theorem w_guardian_Enough (k : Nat) (v0 : Int) (v1 : Int) (v2 : (List Int)) (v3 : (List Int)) (v4 : Bool) (hF : guardian_Enough k v0 v1 v2 v3 = some v4) :
  FCall Try.prog 35 [AV.agg [AV.int .i64 v0, AV.int .i64 v1, AV.lst false false (List.map (AV.int .i64) v2)], AV.lst false false (List.map (AV.int .i64) v3)] [] (AV.bool v4) [] := by
 unfold guardian_Enough at hF
 refine EN Try.func35 ?_
 intro c0 w0 Q h0 hQ
 refine WK [(0, AV.agg [Iz v0, Iz v1, Lz v2]), (1, Lz v3)] [] 0 (by simp) (by simp) ?_
 refine SQ [] [none, none] fun _ _ g r => ?_
 try simp
 and_intros <;> first | exact g _ (by kernel_rfl) | refine r _ _ _ ?_ | omega | (simp [maxLen] <;> omega)
 refine WK [(1, Lz v3), (2, AV.ptr 0 0)] [(0, .cells [Iz v0, Iz v1, Lz v2])] 1 (by simp) (by simp) ?_
 refine AW.scope ?_
 refine AW.seq fun K738 hK738 => ?_
 refine SQ [] [none, none, none] fun _ _ g r => ?_
 try simp
 and_intros
 try any_goals first | omega | (simp [maxLen] <;> omega)
 obtain ⟨v5, h1, hF⟩ := bnd1_elim hF
 refine AC (w_guardian_Valid k _ _ _ _ h1) (.cons (.same (by simp)) .nil) ?_
 try simp
 and_intros <;> first | exact g _ (by kernel_rfl) | refine r _ _ _ ?_ | omega | (simp [maxLen] <;> omega)
 refine WK [(1, Lz v3), (2, AV.ptr 0 0), (12, AV.bool (!v5))] [(0, .cells [Iz v0, Iz v1, Lz v2])] 1 (by simp) (by simp) ?_
 by_cases h2 : (!v5) = true
 ·replace hF := ite_t h2 hF
  have h2_ := h2
  try simp at h2_
  refine CT (by simp [h2, h2_] <;> omega) ?_
  refine SQ [] [none] fun _ _ g r => ?_
  try simp [h2, h2_]
  and_intros <;> first | exact g _ (by kernel_rfl) | refine r _ _ _ ?_ | omega | (simp [h2, h2_, maxLen] <;> omega)
  refine WK [(4, AV.bool false)] [] 1 (by simp [h2, h2_]) (by simp [h2, h2_]) ?_
  simp only [Option.some.injEq] at hF
  subst hF
  refine AW.ret (hQ _ _ _ ?_ (matchO_0 ?_)).1
  ·simp [Try.f35, h2, h2_]
  ·simp [h2, h2_]
 ·replace hF := ite_f h2 hF
  have h2_ := h2
  try simp at h2_
  refine CF (by simp [h2, h2_] <;> omega) ?_
  refine AW.skip ?_
  refine hK738 _ _ _ ?_
  refine SQ [] [none] fun _ _ g r => ?_
  try simp [h2, h2_]
  and_intros <;> first | exact g _ (by kernel_rfl) | refine r _ _ _ ?_ | omega | (simp [h2, h2_, maxLen] <;> omega)
  refine WK [(1, Lz v3), (2, AV.ptr 0 0), (5, Iz 0)] [(0, .cells [Iz v0, Iz v1, Lz v2])] 1 (by simp [h2, h2_]) (by simp [h2, h2_]) ?_
  refine AW.seq fun K742 hK742 => ?_
  refine AW.label ?_
  refine hK742 _ _ _ ?_
  refine AW.seq fun K1105 hK1105 => ?_
  refine SQ [] [none, none, none, none] fun _ _ g r => ?_
  try simp [h2, h2_]
  and_intros <;> first | exact g _ (by kernel_rfl) | refine r _ _ _ ?_ | omega | (simp [h2, h2_, maxLen] <;> omega)
  refine WK [(1, Lz v3), (2, AV.ptr 0 0), (5, Iz 0), (14, Lz v2), (15, Iz (v2.length : Int)), (16, Iz 0)] [(0, .cells [Iz v0, Iz v1, Lz v2])] 1 (by simp [h2, h2_]) (by simp [h2, h2_]) ?_
  refine AW.block ?_
  refine AW.loopF (α := (Int × Int)) (fun n (v6, v7) => guardian_Enough.L1 k v1 v2 v3 n v6 v7 = some v4) (fun (v6, v7) => [(1, Lz v3), (2, AV.ptr 0 0), (5, Iz v6), (14, Lz v2), (15, Iz (v2.length : Int)), (16, Iz v7)]) (fun (v6, v7) => [(0, .cells [Iz v0, Iz v1, Lz v2])]) 1 k ((0, 0)) hF (by simp [h2, h2_]) (by simp [h2, h2_]) (by simp) ?_
  rintro (_|n1) ⟨v6, v7⟩ hF K1377 hK1377
  ·try dsimp only at hF
   rw [guardian_Enough.L1] at hF; cases hF
  try dsimp only at hF
  rw [guardian_Enough.L1] at hF
  refine SQ [] [none] fun _ _ g r => ?_
  try simp [h2, h2_]
  and_intros <;> first | exact g _ (by kernel_rfl) | refine r _ _ _ ?_ | omega | (simp [h2, h2_, maxLen] <;> omega)
  refine WK [(1, Lz v3), (2, AV.ptr 0 0), (5, Iz v6), (14, Lz v2), (15, Iz (v2.length : Int)), (16, Iz v7), (17, AV.bool (decide (v7 < (v2.length : Int))))] [(0, .cells [Iz v0, Iz v1, Lz v2])] 1 (by simp [h2, h2_]) (by simp [h2, h2_]) ?_
  refine AW.seq fun K1379 hK1379 => ?_
  by_cases h3 : v7 < (v2.length : Int)
  ·replace hF := ite_t h3 hF
   have h3_ := h3
   try simp at h3_
   have F1 := And.intro h2 (And.intro h2_ (And.intro h3 h3_))
   refine CT (by simp [F1] <;> omega) ?_
   refine AW.skip ?_
   refine hK1379 _ _ _ ?_
   refine AW.midF (α := Int) (fun v8 => guardian_Enough.J2 k v7 (fun v6_ v7_ => guardian_Enough.L1 k v1 v2 v3 n1 v6_ v7_) v8 = some v4) (fun v8 => [(1, Lz v3), (2, AV.ptr 0 0), (5, Iz v8), (14, Lz v2), (15, Iz (v2.length : Int)), (16, Iz v7)]) (fun v8 => [(0, .cells [Iz v0, Iz v1, Lz v2])]) 1 (fun K1424 hK1424 => ?_) ?_
   ·refine AW.block ?_
    refine SQ [] [none, none, none] fun _ _ g r => ?_
    obtain ⟨v9, h4, h5, h6, hF⟩ := idx_elim hF
    have h6_ := get_of h6
    try simp at h6_
    have h5_ := h5
    try simp at h5_
    have F2 := And.intro F1 (And.intro h4 (And.intro h5 (And.intro h6 (And.intro h6_ h5_))))
    try simp [F2]
    and_intros <;> first | exact g _ (by kernel_rfl) | refine r _ _ _ ?_ | omega | (simp [maxLen, F2] <;> omega)
    refine WK [(1, Lz v3), (2, AV.ptr 0 0), (5, Iz v6), (7, Iz v9), (14, Lz v2), (15, Iz (v2.length : Int)), (16, Iz v7)] [(0, .cells [Iz v0, Iz v1, Lz v2])] 1 (by simp [F2]) (by simp [F2]) ?_
    refine SQ [] [none, none, none] fun _ _ g r => ?_
    try simp [F2]
    and_intros <;> first | exact g _ (by kernel_rfl) | refine r _ _ _ ?_ | omega | (simp [maxLen, F2] <;> omega)
    refine WK [(1, Lz v3), (2, AV.ptr 0 0), (5, Iz v6), (7, Iz v9), (14, Lz v2), (15, Iz (v2.length : Int)), (16, Iz v7), (20, Lz v3), (21, Iz (v3.length : Int)), (22, Iz 0)] [(0, .cells [Iz v0, Iz v1, Lz v2])] 1 (by simp [F2]) (by simp [F2]) ?_
    refine AW.block ?_
    refine AW.loopF (α := Int) (fun n v10 => guardian_Enough.L3 k v3 v6 v7 v9 (fun v6_ v7_ => guardian_Enough.L1 k v1 v2 v3 n1 v6_ v7_) n v10 = some v4) (fun v10 => [(1, Lz v3), (2, AV.ptr 0 0), (5, Iz v6), (7, Iz v9), (14, Lz v2), (15, Iz (v2.length : Int)), (16, Iz v7), (20, Lz v3), (21, Iz (v3.length : Int)), (22, Iz v10)]) (fun v10 => [(0, .cells [Iz v0, Iz v1, Lz v2])]) 1 k (0) hF (by simp [F2]) (by simp [F2]) (by simp) ?_
    rintro (_|n3) v10 hF K1457 hK1457
    ·try dsimp only at hF
     rw [guardian_Enough.L3] at hF; cases hF
    try dsimp only at hF
    rw [guardian_Enough.L3] at hF
    refine SQ [] [none] fun _ _ g r => ?_
    try simp [F2]
    and_intros <;> first | exact g _ (by kernel_rfl) | refine r _ _ _ ?_ | omega | (simp [maxLen, F2] <;> omega)
    refine WK [(1, Lz v3), (2, AV.ptr 0 0), (5, Iz v6), (7, Iz v9), (14, Lz v2), (15, Iz (v2.length : Int)), (16, Iz v7), (20, Lz v3), (21, Iz (v3.length : Int)), (22, Iz v10), (23, AV.bool (decide (v10 < (v3.length : Int))))] [(0, .cells [Iz v0, Iz v1, Lz v2])] 1 (by simp [F2]) (by simp [F2]) ?_
    refine AW.seq fun K1459 hK1459 => ?_
    by_cases h7 : v10 < (v3.length : Int)
    ·replace hF := ite_t h7 hF
     have h7_ := h7
     try simp at h7_
     have F3 := And.intro F2 (And.intro h7 h7_)
     refine CT (by simp [F3] <;> omega) ?_
     refine AW.skip ?_
     refine hK1459 _ _ _ ?_
     refine AW.seq fun K1463 hK1463 => ?_
     refine AW.block ?_
     refine SQ [] [none, none, none] fun _ _ g r => ?_
     obtain ⟨v11, h8, h9, h10, hF⟩ := idx_elim hF
     have h10_ := get_of h10
     try simp at h10_
     have h9_ := h9
     try simp at h9_
     have F4 := And.intro F3 (And.intro h8 (And.intro h9 (And.intro h10 (And.intro h10_ h9_))))
     try simp [F4]
     and_intros <;> first | exact g _ (by kernel_rfl) | refine r _ _ _ ?_ | omega | (simp [maxLen, F4] <;> omega)
     refine WK [(1, Lz v3), (2, AV.ptr 0 0), (5, Iz v6), (7, Iz v9), (9, Iz v11), (14, Lz v2), (15, Iz (v2.length : Int)), (16, Iz v7), (20, Lz v3), (21, Iz (v3.length : Int)), (22, Iz v10)] [(0, .cells [Iz v0, Iz v1, Lz v2])] 1 (by simp [F4]) (by simp [F4]) ?_
     refine SQ [] [none, none, none] fun _ _ g r => ?_
     try simp [F4]
     and_intros <;> first | exact g _ (by kernel_rfl) | refine r _ _ _ ?_ | omega | (simp [maxLen, F4] <;> omega)
     refine WK [(1, Lz v3), (2, AV.ptr 0 0), (5, Iz v6), (7, Iz v9), (14, Lz v2), (15, Iz (v2.length : Int)), (16, Iz v7), (20, Lz v3), (21, Iz (v3.length : Int)), (22, Iz v10), (28, AV.bool (v11 == v9))] [(0, .cells [Iz v0, Iz v1, Lz v2])] 1 (by simp [F4]) (by simp [F4]) ?_
     by_cases h11 : v11 = v9
     ·replace hF := ite_t h11 hF
      have h11q : v11 = v9 := h11
      have h11_ := eqb_t h11q
      have h11__ := neb_f h11q
      have F5 := And.intro F4 (And.intro h11_ h11__)
      refine CT (by simp [F5] <;> omega) ?_
      refine SQ [] [none, none, none] fun _ _ g r => ?_
      try simp [F5]
      and_intros <;> first | exact g _ (by kernel_rfl) | refine r _ _ _ ?_ | omega | (simp [maxLen, F5] <;> omega)
      refine WK [(1, Lz v3), (2, AV.ptr 0 0), (5, Iz (IntKind.wrap .i64 (v6 + 1))), (14, Lz v2), (15, Iz (v2.length : Int)), (16, Iz v7)] [(0, .cells [Iz v0, Iz v1, Lz v2])] 1 (by simp [F5]) (by simp [F5]) ?_
      refine AW.exit ?_
      try simp
      refine hK1424 _ _ _ ?_
      exact Can.join (IntKind.wrap .i64 (v6 + 1)) hF (by simp [F5]) (by simp [F5]) (by simp)
     ·replace hF := ite_f h11 hF
      have h11_ := eqb_f h11
      have h11__ := neb_t h11
      have F6 := And.intro F4 (And.intro h11 (And.intro h11_ h11__))
      refine CF (by simp [F6] <;> omega) ?_
      refine AW.skip ?_
      refine hK1463 _ _ _ ?_
      refine RG [] [none, none] fun _ _ g r => ?_
      try simp [F6]
      and_intros <;> first | exact g _ (by kernel_rfl) | refine r _ _ _ ?_ | omega | (simp [maxLen, F6] <;> omega)
      refine hK1457 _ _ _ ?_
      exact Can.next (k' := n3) (IntKind.wrap .i64 (v10 + 1)) (by omega) hF (by simp [F6]) (by simp [F6]) (by simp)
    ·replace hF := ite_f h7 hF
     have h7_ := h7
     try simp at h7_
     have F7 := And.intro F2 (And.intro h7 h7_)
     refine CF (by simp [F7] <;> omega) ?_
     refine AW.exit ?_
     try simp
     refine hK1424 _ _ _ ?_
     exact Can.join (v6) hF (by simp [F7]) (by simp [F7]) (by simp)
   ·rintro v8 hF
    try dsimp only at hF
    unfold guardian_Enough.J2 at hF
    refine RG [] [none, none] fun _ _ g r => ?_
    try simp [F1]
    and_intros <;> first | exact g _ (by kernel_rfl) | refine r _ _ _ ?_ | omega | (simp [maxLen, F1] <;> omega)
    refine hK1377 _ _ _ ?_
    exact Can.next (k' := n1) ((v8, IntKind.wrap .i64 (v7 + 1))) (by omega) hF (by simp [F1]) (by simp [F1]) (by simp)
  ·replace hF := ite_f h3 hF
   have h3_ := h3
   try simp at h3_
   have F8 := And.intro h2 (And.intro h2_ (And.intro h3 h3_))
   refine CF (by simp [F8] <;> omega) ?_
   refine AW.exit ?_
   try simp
   refine hK1105 _ _ _ ?_
   refine SQ [] [none, none, none, none, none] fun _ _ g r => ?_
   try simp [F8]
   and_intros <;> first | exact g _ (by kernel_rfl) | refine r _ _ _ ?_ | omega | (simp [maxLen, F8] <;> omega)
   refine WK [(4, AV.bool (decide (v1 ≤ v6)))] [] 1 (by simp [F8]) (by simp [F8]) ?_
   simp only [Option.some.injEq] at hF
   subst hF
   refine AW.ret (hQ _ _ _ ?_ (matchO_0 ?_)).1
   ·simp [Try.f35, F8]
   ·simp [F8]
theorem w_law34_awake (k : Nat) (v0 : Bool) (hF : law34_awake k = some v0) :
  FCall Try.prog 21 [] [] (AV.bool v0) [] := by
 unfold law34_awake at hF
 refine EN Try.func21 ?_
 intro c0 w0 Q h0 hQ
 refine WK [] [] 0 (by simp) (by simp) ?_
 refine SQ [] [none] fun _ _ g r => ?_
 try simp
 and_intros <;> first | exact g _ (by kernel_rfl) | refine r _ _ _ ?_ | omega | (simp [maxLen] <;> omega)
 refine WK [] [] 0 (by simp) (by simp) ?_
 refine SQ [] [none, none, none, none] fun _ _ g r => ?_
 try simp
 and_intros <;> first | exact g _ (by kernel_rfl) | refine r _ _ _ ?_ | omega | (simp [maxLen] <;> omega)
 refine WK [(1, AV.ptr 0 0)] [(0, .cells [Iz 1, Iz 2, AV.lst false true (List.map (AV.int .i64) ([3, 4, 5] : List Int))])] 1 (by simp) (by simp) ?_
 refine SQ [] [none, none, none, some (6, true), some (6, true), some (6, true), some (6, true), none, none, some (12, true), some (12, true), some (12, true), none, none] fun _ _ g r => ?_
 try simp
 and_intros
 try any_goals first | omega | (simp [maxLen] <;> omega)
 obtain ⟨v1, h1, hF⟩ := bnd1_elim hF
 refine AC (w_guardian_Valid k _ _ _ _ h1) (.cons (.agg (.cons (.same (by simp)) (.cons (.same (by simp)) (.cons (Coe.fl (by simp)) .nil)))) .nil) ?_
 by_cases h2 : v1 = true
 ·replace hF := ite_t h2 hF
  have h2_ := h2
  try simp at h2_
  try simp [h2, h2_]
  and_intros
  try any_goals first | omega | (simp [h2, h2_, maxLen] <;> omega)
  obtain ⟨v2, h3, hF⟩ := bnd1_elim hF
  refine AC (w_guardian_Enough k _ _ _ _ _ h3) (.cons (.agg (.cons (.same (by simp [h2, h2_])) (.cons (.same (by simp [h2, h2_])) (.cons (Coe.fl (by simp [h2, h2_])) .nil)))) (.cons (Coe.fl (by simp [h2, h2_])) .nil)) ?_
  by_cases h4 : (!v2) = true
  ·replace hF := ite_t h4 hF
   have h4_ := h4
   try simp at h4_
   have F1 := And.intro h2 (And.intro h2_ (And.intro h4 h4_))
   try simp [F1]
   and_intros
   try any_goals first | omega | (simp [maxLen, F1] <;> omega)
   obtain ⟨v3, h5, hF⟩ := bnd1_elim hF
   refine AC (w_guardian_Enough k _ _ _ _ _ h5) (.cons (.agg (.cons (.same (by simp [F1])) (.cons (.same (by simp [F1])) (.cons (Coe.fl (by simp [F1])) .nil)))) (.cons (Coe.fl (by simp [F1])) .nil)) ?_
   try simp [F1]
   and_intros <;> first | exact g _ (by kernel_rfl) | refine r _ _ _ ?_ | omega | (simp [maxLen, F1] <;> omega)
   refine WK [(0, AV.bool v3)] [] 1 (by simp [F1]) (by simp [F1]) ?_
   simp only [Option.some.injEq] at hF
   subst hF
   refine AW.ret (hQ _ _ _ ?_ (matchO_0 ?_)).1
   ·simp [Try.f21, F1]
   ·simp [F1]
  ·replace hF := ite_f h4 hF
   have h4_ := h4
   try simp at h4_
   have F2 := And.intro h2 (And.intro h2_ (And.intro h4 h4_))
   try simp [F2]
   and_intros <;> first | exact g _ (by kernel_rfl) | refine r _ _ _ ?_ | omega | (simp [maxLen, F2] <;> omega)
   refine WK [(0, AV.bool false)] [] 1 (by simp [F2]) (by simp [F2]) ?_
   simp only [Option.some.injEq] at hF
   subst hF
   refine AW.ret (hQ _ _ _ ?_ (matchO_0 ?_)).1
   ·simp [Try.f21, F2]
   ·simp [F2]
 ·replace hF := ite_f h2 hF
  have h2_ := h2
  try simp at h2_
  try simp [h2, h2_]
  and_intros <;> first | exact g _ (by kernel_rfl) | refine r _ _ _ ?_ | omega | (simp [h2, h2_, maxLen] <;> omega)
  refine WK [(0, AV.bool false)] [] 1 (by simp [h2, h2_]) (by simp [h2, h2_]) ?_
  simp only [Option.some.injEq] at hF
  subst hF
  refine AW.ret (hQ _ _ _ ?_ (matchO_0 ?_)).1
  ·simp [Try.f21, h2, h2_]
  ·simp [h2, h2_]
theorem w_made_Roll (k : Nat) (v0 : (List Int)) (v1 : (List Int)) (v2 : Int) (hF : made_Roll k v0 = some (v1, v2)) :
  FCall Try.prog 64 [AV.lst false false (List.map (AV.int .i64) v0)] [] (AV.ptr 0 0) [some (.cells [AV.lst false false (List.map (AV.int .i64) v1), AV.int .i64 v2])] := by
 unfold made_Roll at hF
 refine EN Try.func64 ?_
 intro c0 w0 Q h0 hQ
 refine WK [(0, Lz v0)] [] 0 (by simp) (by simp) ?_
 refine SQ [] [none] fun _ _ g r => ?_
 try simp
 and_intros <;> first | exact g _ (by kernel_rfl) | refine r _ _ _ ?_ | omega | (simp [maxLen] <;> omega)
 refine WK [(0, Lz v0)] [] 0 (by simp) (by simp) ?_
 refine SQ [] [none, none, none, none] fun _ _ g r => ?_
 try simp
 and_intros <;> first | exact g _ (by kernel_rfl) | refine r _ _ _ ?_ | omega | (simp [maxLen] <;> omega)
 refine WK [(2, AV.ptr 0 0)] [(0, .cells [Lz v0, Iz 0])] 1 (by simp) (by simp) ?_
 simp only [Option.some.injEq, Prod.mk.injEq] at hF
 obtain ⟨e0, e1⟩ := hF
 subst e0 e1
 refine AW.ret (hQ _ _ _ ?_ (matchO_0 ?_)).1
 ·simp [Try.f64]
 ·simp
theorem w_mill_Roll (k : Nat) (v0 : (List Int)) (v1 : (List Int)) (v2 : Int) (hF : mill_Roll k v0 = some (v1, v2)) :
  FCall Try.prog 18 [AV.lst false false (List.map (AV.int .i64) v0)] [] (AV.ptr 0 0) [some (.cells [AV.lst false false (List.map (AV.int .i64) v1), AV.int .i64 v2])] := by
 unfold mill_Roll at hF
 refine EN Try.func18 ?_
 intro c0 w0 Q h0 hQ
 refine WK [(0, Lz v0)] [] 0 (by simp) (by simp) ?_
 refine SQ [] [none] fun _ _ g r => ?_
 try simp
 and_intros <;> first | exact g _ (by kernel_rfl) | refine r _ _ _ ?_ | omega | (simp [maxLen] <;> omega)
 refine WK [(0, Lz v0)] [] 0 (by simp) (by simp) ?_
 refine SQ [] [none, none, none] fun _ _ g r => ?_
 try simp
 and_intros
 try any_goals first | omega | (simp [maxLen] <;> omega)
 obtain ⟨v3, v4, h1, hF⟩ := bnd2_elim hF
 refine AC (w_made_Roll k _ _ _ h1) (.cons (.same (by simp)) .nil) ?_
 try simp
 and_intros <;> first | exact g _ (by kernel_rfl) | refine r _ _ _ ?_ | omega | (simp [maxLen] <;> omega)
 refine WK [(2, AV.ptr 0 0)] [(0, .cells [Lz v3, Iz v4])] 1 (by simp) (by simp) ?_
 simp only [Option.some.injEq, Prod.mk.injEq] at hF
 obtain ⟨e0, e1⟩ := hF
 subst e0 e1
 refine AW.ret (hQ _ _ _ ?_ (matchO_0 ?_)).1
 ·simp [Try.f18]
 ·simp
theorem w_made_Mod (k : Nat) (v0 : Int) (v1 : Int) (v2 : Int) (hF : made_Mod k v0 v1 = some v2) :
  FCall Try.prog 12 [AV.int .i64 v0, AV.int .i64 v1] [] (AV.int .i64 v2) [] := by
 unfold made_Mod at hF
 refine EN Try.func12 ?_
 intro c0 w0 Q h0 hQ
 refine WK [(0, Iz v0), (1, Iz v1)] [] 0 (by simp) (by simp) ?_
 refine SQ [] [none] fun _ _ g r => ?_
 try simp
 and_intros <;> first | exact g _ (by kernel_rfl) | refine r _ _ _ ?_ | omega | (simp [maxLen] <;> omega)
 refine WK [(0, Iz v0), (1, Iz v1)] [] 0 (by simp) (by simp) ?_
 refine AW.seq fun K17 hK17 => ?_
 refine SQ [] [none, none] fun _ _ g r => ?_
 try simp
 and_intros <;> first | exact g _ (by kernel_rfl) | refine r _ _ _ ?_ | omega | (simp [maxLen] <;> omega)
 refine WK [(0, Iz v0), (1, Iz v1), (6, AV.bool (decide (v1 < 1)))] [] 0 (by simp) (by simp) ?_
 by_cases h1 : v1 < 1
 ·replace hF := ite_t h1 hF
  have h1_ := h1
  try simp at h1_
  refine CT (by simp [h1, h1_] <;> omega) ?_
  refine SQ [] [none] fun _ _ g r => ?_
  try simp [h1, h1_]
  and_intros <;> first | exact g _ (by kernel_rfl) | refine r _ _ _ ?_ | omega | (simp [h1, h1_, maxLen] <;> omega)
  refine WK [(4, Iz 0)] [] 0 (by simp [h1, h1_]) (by simp [h1, h1_]) ?_
  simp only [Option.some.injEq] at hF
  subst hF
  refine AW.ret (hQ _ _ _ ?_ (matchO_0 ?_)).1
  ·simp [Try.f12, h1, h1_]
  ·simp [h1, h1_]
 ·replace hF := ite_f h1 hF
  have h1_ := h1
  try simp at h1_
  refine CF (by simp [h1, h1_] <;> omega) ?_
  refine AW.skip ?_
  refine hK17 _ _ _ ?_
  refine SQ [] [none, none, none, none] fun _ _ g r => ?_
  obtain ⟨h2, hF⟩ := chk_elim hF
  have h2_ := h2
  try simp at h2_
  have F1 := And.intro h1 (And.intro h1_ (And.intro h2 h2_))
  try simp [F1]
  and_intros <;> first | exact g _ (by kernel_rfl) | refine r _ _ _ ?_ | omega | (simp [maxLen, F1] <;> omega)
  refine WK [(0, Iz (Int.tmod v0 v1)), (1, Iz v1)] [] 0 (by simp [F1]) (by simp [F1]) ?_
  refine AW.midF (α := Int) (fun v3 => made_Mod.J1 k v3 = some v2) (fun v3 => [(0, Iz v3)]) (fun v3 => []) 0 (fun K24 hK24 => ?_) ?_
  ·refine SQ [] [none, none] fun _ _ g r => ?_
   try simp [F1]
   and_intros <;> first | exact g _ (by kernel_rfl) | refine r _ _ _ ?_ | omega | (simp [maxLen, F1] <;> omega)
   refine WK [(0, Iz (Int.tmod v0 v1)), (1, Iz v1), (11, AV.bool (decide (Int.tmod v0 v1 < 0)))] [] 0 (by simp [F1]) (by simp [F1]) ?_
   by_cases h3 : Int.tmod v0 v1 < 0
   ·replace hF := ite_t h3 hF
    have h3_ := h3
    try simp at h3_
    have F2 := And.intro F1 (And.intro h3 h3_)
    refine CT (by simp [F2] <;> omega) ?_
    refine RG [] [none, none, none, none] fun _ _ g r => ?_
    try simp [F2]
    and_intros <;> first | exact g _ (by kernel_rfl) | refine r _ _ _ ?_ | omega | (simp [maxLen, F2] <;> omega)
    refine hK24 _ _ _ ?_
    exact Can.join (IntKind.wrap .i64 (Int.tmod v0 v1 + v1)) hF (by simp [F2]) (by simp [F2]) (by simp)
   ·replace hF := ite_f h3 hF
    have h3_ := h3
    try simp at h3_
    have F3 := And.intro F1 (And.intro h3 h3_)
    refine CF (by simp [F3] <;> omega) ?_
    refine AW.skip ?_
    refine hK24 _ _ _ ?_
    exact Can.join (Int.tmod v0 v1) hF (by simp [F3]) (by simp [F3]) (by simp)
  ·rintro v3 hF
   try dsimp only at hF
   unfold made_Mod.J1 at hF
   refine SQ [] [none, none] fun _ _ g r => ?_
   try simp [F1]
   and_intros <;> first | exact g _ (by kernel_rfl) | refine r _ _ _ ?_ | omega | (simp [maxLen, F1] <;> omega)
   refine WK [(4, Iz v3)] [] 0 (by simp [F1]) (by simp [F1]) ?_
   simp only [Option.some.injEq] at hF
   subst hF
   refine AW.ret (hQ _ _ _ ?_ (matchO_0 ?_)).1
   ·simp [Try.f12, F1]
   ·simp [F1]
theorem w_made_Dice_Next (k : Nat) (v0 : (List Int)) (v1 : Int) (v2 : Int) (v3 : Int) (v4 : Int) (hF : made_Dice_Next k v0 v1 v2 = some (v3, v4)) :
  FCall Try.prog 22 [AV.ptr 0 0, AV.int .i64 v2] [.cells [AV.lst false false (List.map (AV.int .i64) v0), AV.int .i64 v1]] (AV.int .i64 v3) [some (.cells [AV.lst false false (List.map (AV.int .i64) v0), AV.int .i64 v4])] := by
 unfold made_Dice_Next at hF
 refine EN Try.func22 ?_
 intro c0 w0 Q h0 hQ
 refine WK [(0, AV.ptr 0 0), (1, Iz v2)] [(0, .cells [Lz v0, Iz v1])] 1 (by simp) (by simp) ?_
 refine SQ [] [none] fun _ _ g r => ?_
 try simp
 and_intros <;> first | exact g _ (by kernel_rfl) | refine r _ _ _ ?_ | omega | (simp [maxLen] <;> omega)
 refine WK [(0, AV.ptr 0 0), (1, Iz v2)] [(0, .cells [Lz v0, Iz v1])] 1 (by simp) (by simp) ?_
 refine AW.seq fun K12 hK12 => ?_
 refine SQ [] [none, none, none, none, none, none, none, none, none, none] fun _ _ g r => ?_
 try simp
 and_intros <;> first | exact g _ (by kernel_rfl) | refine r _ _ _ ?_ | omega | (simp [maxLen] <;> omega)
 refine WK [(0, AV.ptr 0 0), (1, Iz v2), (14, AV.bool (decide ((v0.length : Int) ≤ v1)))] [(0, .cells [Lz v0, Iz v1])] 1 (by simp) (by simp) ?_
 by_cases h1 : (v0.length : Int) ≤ v1
 ·replace hF := ite_t h1 hF
  have h1_ := h1
  try simp at h1_
  refine CT (by simp [h1, h1_] <;> omega) ?_
  refine SQ [] [none] fun _ _ g r => ?_
  try simp [h1, h1_]
  and_intros <;> first | exact g _ (by kernel_rfl) | refine r _ _ _ ?_ | omega | (simp [h1, h1_, maxLen] <;> omega)
  refine WK [(4, Iz 0)] [(0, .cells [Lz v0, Iz v1])] 1 (by simp [h1, h1_]) (by simp [h1, h1_]) ?_
  simp only [Option.some.injEq, Prod.mk.injEq] at hF
  obtain ⟨e0, e1⟩ := hF
  subst e0 e1
  refine AW.ret (hQ _ _ _ ?_ (matchO_0 ?_)).1
  ·simp [Try.f22, h1, h1_]
  ·simp [h1, h1_]
 ·replace hF := ite_f h1 hF
  have h1_ := h1
  try simp at h1_
  refine CF (by simp [h1, h1_] <;> omega) ?_
  refine AW.skip ?_
  refine hK12 _ _ _ ?_
  refine SQ [] [none, none, none, none, none, none, none, none] fun _ _ g r => ?_
  try simp [h1, h1_]
  and_intros <;> first | exact g _ (by kernel_rfl) | refine r _ _ _ ?_ | omega | (simp [h1, h1_, maxLen] <;> omega)
  refine WK [(0, AV.ptr 0 0), (1, Iz v2)] [(0, .cells [Lz v0, Iz (IntKind.wrap .i64 (v1 + 1))])] 1 (by simp [h1, h1_]) (by simp [h1, h1_]) ?_
  refine SQ [] [none, none, none, none, none, none, none, none, none, none, none, none, none, none] fun _ _ g r => ?_
  obtain ⟨v5, h2, h3, h4, hF⟩ := idx_elim hF
  have h4_ := get_of h4
  try simp at h4_
  have h3_ := h3
  try simp at h3_
  have F1 := And.intro h1 (And.intro h1_ (And.intro h2 (And.intro h3 (And.intro h4 (And.intro h4_ h3_)))))
  try simp [F1]
  and_intros
  try any_goals first | omega | (simp [maxLen, F1] <;> omega)
  obtain ⟨v6, h5, hF⟩ := bnd1_elim hF
  refine AC (w_made_Mod k _ _ _ h5) (.cons (.same (by simp [F1])) (.cons (.same (by simp [F1])) .nil)) ?_
  try simp [F1]
  and_intros <;> first | exact g _ (by kernel_rfl) | refine r _ _ _ ?_ | omega | (simp [maxLen, F1] <;> omega)
  refine WK [(4, Iz v6)] [(0, .cells [Lz v0, Iz (IntKind.wrap .i64 (v1 + 1))])] 1 (by simp [F1]) (by simp [F1]) ?_
  simp only [Option.some.injEq, Prod.mk.injEq] at hF
  obtain ⟨e0, e1⟩ := hF
  subst e0 e1
  refine AW.ret (hQ _ _ _ ?_ (matchO_0 ?_)).1
  ·simp [Try.f22, F1]
  ·simp [F1]
theorem w_made_Dice_Some (k : Nat) (v0 : (List Int)) (v1 : Int) (v2 : Int) (v3 : (List Int)) (v4 : Int) (hF : made_Dice_Some k v0 v1 v2 = some (v3, v4)) :
  FCall Try.prog 33 [AV.ptr 0 0, AV.int .i64 v2] [.cells [AV.lst false false (List.map (AV.int .i64) v0), AV.int .i64 v1]] (AV.slc 1 0 1 v3.length false) [some (.cells [AV.lst false false (List.map (AV.int .i64) v0), AV.int .i64 v4]), some (.grow (List.map (AV.int .i64) v3))] := by
 unfold made_Dice_Some at hF
 refine EN Try.func33 ?_
 intro c0 w0 Q h0 hQ
 refine WK [(0, AV.ptr 0 0), (1, Iz v2)] [(0, .cells [Lz v0, Iz v1])] 1 (by simp) (by simp) ?_
 refine SQ [] [none] fun _ _ g r => ?_
 try simp
 and_intros <;> first | exact g _ (by kernel_rfl) | refine r _ _ _ ?_ | omega | (simp [maxLen] <;> omega)
 refine WK [(0, AV.ptr 0 0), (1, Iz v2)] [(0, .cells [Lz v0, Iz v1])] 1 (by simp) (by simp) ?_
 refine SQ [] [none] fun _ _ g r => ?_
 try simp
 and_intros <;> first | exact g _ (by kernel_rfl) | refine r _ _ _ ?_ | omega | (simp [maxLen] <;> omega)
 refine WK [(0, AV.ptr 0 0), (1, Iz v2), (5, AV.lst true true (List.map (AV.int .i64) ([] : List Int)))] [(0, .cells [Lz v0, Iz v1])] 1 (by simp) (by simp) ?_
 refine AW.seq fun K121 hK121 => ?_
 refine SQ [] [none] fun _ _ g r => ?_
 try simp
 and_intros <;> first | exact g _ (by kernel_rfl) | refine r _ _ _ ?_ | omega | (simp [maxLen] <;> omega)
 refine WK [(0, AV.ptr 0 0), (1, Iz v2), (5, AV.lst true true (List.map (AV.int .i64) ([] : List Int))), (6, Iz 0)] [(0, .cells [Lz v0, Iz v1])] 1 (by simp) (by simp) ?_
 refine AW.block ?_
 refine AW.own' 5 1 true (by simp) (by decide) ?_
 refine AW.loopF (α := (Int × Int × (List Int))) (fun n (v5, v6, v7) => made_Dice_Some.L1 k v0 v2 n v5 v6 v7 = some (v3, v4)) (fun (v5, v6, v7) => [(0, AV.ptr 0 0), (1, Iz v2), (5, AV.slc 1 0 1 v7.length false), (6, Iz v5)]) (fun (v5, v6, v7) => [(0, .cells [Lz v0, Iz v6]), (1, .grow (List.map (AV.int .i64) v7))]) 2 k ((0, v1, ([] : List Int))) hF (by simp) (by simp) (by simp) ?_
 rintro (_|n1) ⟨v5, v6, v7⟩ hF K150 hK150
 ·try dsimp only at hF
  rw [made_Dice_Some.L1] at hF; cases hF
 try dsimp only at hF
 rw [made_Dice_Some.L1] at hF
 refine AW.seq fun K152 hK152 => ?_
 refine SQ [] [none, none, none] fun _ _ g r => ?_
 try simp
 and_intros <;> first | exact g _ (by kernel_rfl) | refine r _ _ _ ?_ | omega | (simp [maxLen] <;> omega)
 refine WK [(0, AV.ptr 0 0), (1, Iz v2), (5, AV.slc 1 0 1 v7.length false), (6, Iz v5), (9, AV.bool (decide (v5 < v2)))] [(0, .cells [Lz v0, Iz v6]), (1, .grow (List.map (AV.int .i64) v7))] 2 (by simp) (by simp) ?_
 by_cases h1 : v5 < v2
 ·replace hF := ite_t h1 hF
  have h1_ := h1
  try simp at h1_
  refine CT (by simp [h1, h1_] <;> omega) ?_
  refine AW.skip ?_
  refine hK152 _ _ _ ?_
  refine AW.midF (α := (Int × (List Int))) (fun (v8, v9) => made_Dice_Some.J2 k v5 (fun v5_ v6_ v7_ => made_Dice_Some.L1 k v0 v2 n1 v5_ v6_ v7_) v8 v9 = some (v3, v4)) (fun (v8, v9) => [(0, AV.ptr 0 0), (1, Iz v2), (5, AV.slc 1 0 1 v9.length false), (6, Iz v5)]) (fun (v8, v9) => [(0, .cells [Lz v0, Iz v8]), (1, .grow (List.map (AV.int .i64) v9))]) 2 (fun K157 hK157 => ?_) ?_
  ·refine AW.block ?_
   refine SQ [] [none, none, none] fun _ _ g r => ?_
   try simp [h1, h1_]
   and_intros
   try any_goals first | omega | (simp [h1, h1_, maxLen] <;> omega)
   obtain ⟨v10, v11, h2, hF⟩ := bnd2_elim hF
   refine aCall_l (w_made_Dice_Next k _ _ _ _ _ h2) (by simp) [0] [] [0] rfl (.cons (.same (by simp [h1, h1_])) (.cons (.same (by simp [h1, h1_])) .nil)) (by simp [h1, h1_]) (by decide) (by simp) (by simp) (.inl rfl) (by simp) (by simp) ?_
   try simp [h1, h1_]
   and_intros <;> first | exact g _ (by kernel_rfl) | refine r _ _ _ ?_ | omega | (simp [h1, h1_, maxLen] <;> omega)
   refine WK [(0, AV.ptr 0 0), (1, Iz v2), (5, AV.slc 1 0 1 v7.length false), (6, Iz v5), (14, AV.bool (v10 == 0))] [(0, .cells [Lz v0, Iz v11]), (1, .grow (List.map (AV.int .i64) v7))] 2 (by simp [h1, h1_]) (by simp [h1, h1_]) ?_
   by_cases h3 : v10 = 0
   ·replace hF := ite_t h3 hF
    have h3q : v10 = 0 := h3
    have h3_ := eqb_t h3q
    have h3__ := neb_f h3q
    refine CT (by simp [h1, h1_, h3_, h3__, h3q] <;> omega) ?_
    refine RG [] [none, none, none, none, none] fun _ _ g r => ?_
    obtain ⟨h4, hF⟩ := chk_elim hF
    have h4_ := h4
    try simp at h4_
    have F1 := And.intro h1 (And.intro h1_ (And.intro h3_ (And.intro h3__ (And.intro h3q h4))))
    try simp [F1]
    and_intros <;> first | exact g _ (by kernel_rfl) | refine r _ _ _ ?_ | omega | (simp [maxLen, F1] <;> omega)
    refine hK157 _ _ _ ?_
    refine Can.weak [(0, AV.ptr 0 0), (1, Iz v2), (5, AV.slc 2 0 1 ((v7 ++ ([v5] : List Int)).length) false), (6, Iz v5)] [(0, .cells [Lz v0, Iz v11]), (2, .grow (List.map (AV.int .i64) (v7 ++ ([v5] : List Int))))] 3 (by simp [F1] <;> omega) (by simp [F1]) (by simp) ?_
    refine Can.ren (m := 1) h0 [(0, 0), (1, 2)] [(0, AV.ptr 0 0), (1, Iz v2), (5, AV.slc 1 0 1 ((v7 ++ ([v5] : List Int)).length) false), (6, Iz v5)] [(0, .cells [Lz v0, Iz v11]), (1, .grow (List.map (AV.int .i64) (v7 ++ ([v5] : List Int))))] 2 (by decide) (by decide) (by decide) rfl (by simp [F1]) (by simp [F1]) ?_
    exact Can.join ((v11, v7 ++ ([v5] : List Int))) hF (by simp [F1]) (by simp [F1]) (by simp)
   ·replace hF := ite_f h3 hF
    have h3_ := eqb_f h3
    have h3__ := neb_t h3
    have F2 := And.intro h1 (And.intro h1_ (And.intro h3 (And.intro h3_ h3__)))
    refine CF (by simp [F2] <;> omega) ?_
    refine AW.skip ?_
    refine hK157 _ _ _ ?_
    exact Can.join ((v11, v7)) hF (by simp [F2]) (by simp [F2]) (by simp)
  ·rintro ⟨v8, v9⟩ hF
   try dsimp only at hF
   unfold made_Dice_Some.J2 at hF
   refine RG [] [none, none, none] fun _ _ g r => ?_
   try simp [h1, h1_]
   and_intros <;> first | exact g _ (by kernel_rfl) | refine r _ _ _ ?_ | omega | (simp [h1, h1_, maxLen] <;> omega)
   refine hK150 _ _ _ ?_
   exact Can.next (k' := n1) ((IntKind.wrap .i64 (v5 + 1), v8, v9)) (by omega) hF (by simp [h1, h1_]) (by simp [h1, h1_]) (by simp)
 ·replace hF := ite_f h1 hF
  have h1_ := h1
  try simp at h1_
  refine CF (by simp [h1, h1_] <;> omega) ?_
  refine AW.exit ?_
  try simp
  refine hK121 _ _ _ ?_
  refine SQ [] [none, none] fun _ _ g r => ?_
  try simp [h1, h1_]
  and_intros <;> first | exact g _ (by kernel_rfl) | refine r _ _ _ ?_ | omega | (simp [h1, h1_, maxLen] <;> omega)
  refine WK [(4, AV.slc 1 0 1 v7.length false)] [(0, .cells [Lz v0, Iz v6]), (1, .grow (List.map (AV.int .i64) v7))] 2 (by simp [h1, h1_]) (by simp [h1, h1_]) ?_
  simp only [Option.some.injEq, Prod.mk.injEq] at hF
  obtain ⟨e0, e1⟩ := hF
  subst e0 e1
  refine AW.ret (hQ _ _ _ ?_ (matchO_0 ?_)).1
  ·simp [Try.f33, h1, h1_]
  ·simp [h1, h1_]
theorem w_mill_Keys (k : Nat) (v0 : (List Int)) (v1 : Int) (v2 : Int) (v3 : (List Int)) (v4 : Int) (hF : mill_Keys k v0 v1 v2 = some (v3, v4)) :
  FCall Try.prog 49 [AV.ptr 0 0, AV.int .i64 v2] [.cells [AV.lst false false (List.map (AV.int .i64) v0), AV.int .i64 v1]] (AV.lst false false (List.map (AV.int .i64) v3)) [some (.cells [AV.lst false false (List.map (AV.int .i64) v0), AV.int .i64 v4])] := by
 unfold mill_Keys at hF
 refine EN Try.func49 ?_
 intro c0 w0 Q h0 hQ
 refine WK [(0, AV.ptr 0 0), (1, Iz v2)] [(0, .cells [Lz v0, Iz v1])] 1 (by simp) (by simp) ?_
 refine SQ [] [none] fun _ _ g r => ?_
 try simp
 and_intros <;> first | exact g _ (by kernel_rfl) | refine r _ _ _ ?_ | omega | (simp [maxLen] <;> omega)
 refine WK [(0, AV.ptr 0 0), (1, Iz v2)] [(0, .cells [Lz v0, Iz v1])] 1 (by simp) (by simp) ?_
 refine SQ [] [none, none, none, none] fun _ _ g r => ?_
 try simp
 and_intros
 try any_goals first | omega | (simp [maxLen] <;> omega)
 obtain ⟨v5, v6, h1, hF⟩ := bnd2_elim hF
 refine aCall_l (w_made_Dice_Some k _ _ _ _ _ h1) (by simp) [0] [] [0] rfl (.cons (.same (by simp)) (.cons (.same (by simp)) .nil)) (by simp) (by decide) (by simp) (by simp) (.inl rfl) (by simp) (by simp) ?_
 try simp
 and_intros <;> first | exact g _ (by kernel_rfl) | refine r _ _ _ ?_ | omega | (simp [maxLen] <;> omega)
 refine WK [(0, AV.ptr 0 0), (1, Iz v2), (5, AV.slc 1 0 1 v5.length false)] [(0, .cells [Lz v0, Iz v6]), (1, .grow (List.map (AV.int .i64) v5))] 2 (by simp) (by simp) ?_
 refine AW.midF (α := ((List Int) × Int)) (fun (v7, v8) => mill_Keys.J1 k v7 v8 = some (v3, v4)) (fun (v7, v8) => [(5, Lz v7)]) (fun (v7, v8) => [(0, .cells [Lz v0, Iz v8])]) 1 (fun K14 hK14 => ?_) ?_
 ·refine SQ [] [none, none, none] fun _ _ g r => ?_
  try simp
  and_intros <;> first | exact g _ (by kernel_rfl) | refine r _ _ _ ?_ | omega | (simp [maxLen] <;> omega)
  refine WK [(0, AV.ptr 0 0), (1, Iz v2), (5, AV.slc 1 0 1 v5.length false), (11, AV.bool ((v5.length : Int) == 0))] [(0, .cells [Lz v0, Iz v6]), (1, .grow (List.map (AV.int .i64) v5))] 2 (by simp) (by simp) ?_
  by_cases h2 : (v5.length : Int) = 0
  ·replace hF := ite_t h2 hF
   have h2q : (v5.length : Int) = 0 := h2
   have h2_ := eqb_t h2q
   have h2__ := neb_f h2q
   have F1 := And.intro h2_ (And.intro h2__ h2q)
   refine CT (by simp [F1] <;> omega) ?_
   refine RG [] [none, none, none, none, none] fun _ _ g r => ?_
   try simp [F1]
   and_intros
   try any_goals first | omega | (simp [maxLen, F1] <;> omega)
   obtain ⟨v9, v10, h3, hF⟩ := bnd2_elim hF
   refine aCall_l (w_made_Dice_Next k _ _ _ _ _ h3) (by simp) [0] [] [0] rfl (.cons (.same (by simp [F1])) (.cons (.same (by simp [F1])) .nil)) (by simp [F1]) (by decide) (by simp) (by simp) (.inl rfl) (by simp) (by simp) ?_
   try simp [F1]
   and_intros <;> first | exact g _ (by kernel_rfl) | refine r _ _ _ ?_ | omega | (simp [maxLen, F1] <;> omega)
   refine hK14 _ _ _ ?_
   refine Can.weak [(5, AV.lst false true (List.map (AV.int .i64) ([v9] : List Int)))] [(0, .cells [Lz v0, Iz v10])] 2 (by simp [F1]) (by simp [F1]) (by simp) ?_
   refine Can.ren (m := 1) h0 [(0, 0)] [(5, AV.lst false true (List.map (AV.int .i64) ([v9] : List Int)))] [(0, .cells [Lz v0, Iz v10])] 1 (by decide) (by decide) (by decide) rfl (by simp [F1]) (by simp [F1]) ?_
   refine Can.flg [(5, AV.lst false false (List.map (AV.int .i64) ([v9] : List Int)))] [] ⟨(.lst (by simp)), trivial⟩ trivial (by simp) ?_
   exact Can.join ((([v9] : List Int), v10)) hF (by simp [F1]) (by simp [F1]) (by simp)
  ·replace hF := ite_f h2 hF
   have h2_ := eqb_f h2
   have h2__ := neb_t h2
   have F2 := And.intro h2 (And.intro h2_ h2__)
   refine CF (by simp [F2] <;> omega) ?_
   refine AW.skip ?_
   refine hK14 _ _ _ ?_
   refine Can.freeze 1 (o := .grow (List.map (AV.int .i64) v5)) (by simp [F2]) rfl [(5, Lz v5)] [] ⟨(.l (by simp) (by simp) (by simp) (by simp)), trivial⟩ trivial ?_
   refine Can.ren (m := 1) h0 [(0, 0)] [(5, Lz v5)] [(0, .cells [Lz v0, Iz v6])] 1 (by decide) (by decide) (by decide) rfl (by simp [F2]) (by simp [F2]) ?_
   exact Can.join ((v5, v6)) hF (by simp [F2]) (by simp [F2]) (by simp)
 ·rintro ⟨v7, v8⟩ hF
  try dsimp only at hF
  unfold mill_Keys.J1 at hF
  refine SQ [] [none, none] fun _ _ g r => ?_
  try simp
  and_intros <;> first | exact g _ (by kernel_rfl) | refine r _ _ _ ?_ | omega | (simp [maxLen] <;> omega)
  refine WK [(4, Lz v7)] [(0, .cells [Lz v0, Iz v8])] 1 (by simp) (by simp) ?_
  simp only [Option.some.injEq, Prod.mk.injEq] at hF
  obtain ⟨e0, e1⟩ := hF
  subst e0 e1
  refine AW.ret (hQ _ _ _ ?_ (matchO_0 ?_)).1
  ·simp [Try.f49]
  ·simp
theorem w_mill_Keys_o (k : Nat) (v0 : (List Int)) (v1 : Int) (v2 : Int) (v3 : (List Int)) (v4 : Int) (hF : mill_Keys_o k v0 v1 v2 = some (v3, v4)) :
  FCall Try.prog 49 [AV.ptr 0 0, AV.int .i64 v2] [.cells [AV.lst false false (List.map (AV.int .i64) v0), AV.int .i64 v1]] (AV.slc 1 0 1 v3.length false) [some (.cells [AV.lst false false (List.map (AV.int .i64) v0), AV.int .i64 v4]), some (.grow (List.map (AV.int .i64) v3))] := by
 unfold mill_Keys_o at hF
 refine EN Try.func49 ?_
 intro c0 w0 Q h0 hQ
 refine WK [(0, AV.ptr 0 0), (1, Iz v2)] [(0, .cells [Lz v0, Iz v1])] 1 (by simp) (by simp) ?_
 refine SQ [] [none] fun _ _ g r => ?_
 try simp
 and_intros <;> first | exact g _ (by kernel_rfl) | refine r _ _ _ ?_ | omega | (simp [maxLen] <;> omega)
 refine WK [(0, AV.ptr 0 0), (1, Iz v2)] [(0, .cells [Lz v0, Iz v1])] 1 (by simp) (by simp) ?_
 refine SQ [] [none, none, none, none] fun _ _ g r => ?_
 try simp
 and_intros
 try any_goals first | omega | (simp [maxLen] <;> omega)
 obtain ⟨v5, v6, h1, hF⟩ := bnd2_elim hF
 refine aCall_l (w_made_Dice_Some k _ _ _ _ _ h1) (by simp) [0] [] [0] rfl (.cons (.same (by simp)) (.cons (.same (by simp)) .nil)) (by simp) (by decide) (by simp) (by simp) (.inl rfl) (by simp) (by simp) ?_
 try simp
 and_intros <;> first | exact g _ (by kernel_rfl) | refine r _ _ _ ?_ | omega | (simp [maxLen] <;> omega)
 refine WK [(0, AV.ptr 0 0), (1, Iz v2), (5, AV.slc 1 0 1 v5.length false)] [(0, .cells [Lz v0, Iz v6]), (1, .grow (List.map (AV.int .i64) v5))] 2 (by simp) (by simp) ?_
 refine AW.midF (α := ((List Int) × Int)) (fun (v7, v8) => mill_Keys_o.J1 k v7 v8 = some (v3, v4)) (fun (v7, v8) => [(5, AV.slc 1 0 1 v7.length false)]) (fun (v7, v8) => [(0, .cells [Lz v0, Iz v8]), (1, .grow (List.map (AV.int .i64) v7))]) 2 (fun K14 hK14 => ?_) ?_
 ·refine SQ [] [none, none, none] fun _ _ g r => ?_
  try simp
  and_intros <;> first | exact g _ (by kernel_rfl) | refine r _ _ _ ?_ | omega | (simp [maxLen] <;> omega)
  refine WK [(0, AV.ptr 0 0), (1, Iz v2), (5, AV.slc 1 0 1 v5.length false), (11, AV.bool ((v5.length : Int) == 0))] [(0, .cells [Lz v0, Iz v6]), (1, .grow (List.map (AV.int .i64) v5))] 2 (by simp) (by simp) ?_
  by_cases h2 : (v5.length : Int) = 0
  ·replace hF := ite_t h2 hF
   have h2q : (v5.length : Int) = 0 := h2
   have h2_ := eqb_t h2q
   have h2__ := neb_f h2q
   have F1 := And.intro h2_ (And.intro h2__ h2q)
   refine CT (by simp [F1] <;> omega) ?_
   refine RG [15] [none, none, none, none, none] fun _ _ g r => ?_
   try simp [F1]
   and_intros
   try any_goals first | omega | (simp [maxLen, F1] <;> omega)
   obtain ⟨v9, v10, h3, hF⟩ := bnd2_elim hF
   refine aCall_l (w_made_Dice_Next k _ _ _ _ _ h3) (by simp) [0] [] [0] rfl (.cons (.same (by simp [F1])) (.cons (.same (by simp [F1])) .nil)) (by simp [F1]) (by decide) (by simp) (by simp) (.inl rfl) (by simp) (by simp) ?_
   try simp [F1]
   and_intros <;> first | exact g _ (by kernel_rfl) | refine r _ _ _ ?_ | omega | (simp [maxLen, F1] <;> omega)
   refine hK14 _ _ _ ?_
   refine Can.weak [(5, AV.slc 2 0 1 (([v9] : List Int).length) true)] [(0, .cells [Lz v0, Iz v10]), (2, .cells (List.map (AV.int .i64) ([v9] : List Int)))] 3 (by simp [F1]) (by simp [F1]) (by simp) ?_
   refine Can.ren (m := 1) h0 [(0, 0), (1, 2)] [(5, AV.slc 1 0 1 (([v9] : List Int).length) true)] [(0, .cells [Lz v0, Iz v10]), (1, .cells (List.map (AV.int .i64) ([v9] : List Int)))] 2 (by decide) (by decide) (by decide) rfl (by simp [F1]) (by simp [F1]) ?_
   refine Can.flg [(5, AV.slc 1 0 1 (([v9] : List Int).length) false)] [(1, .grow (List.map (AV.int .i64) ([v9] : List Int)))] ⟨.slc, trivial⟩ ⟨⟨AObj.cells (List.map (AV.int .i64) ([v9] : List Int)), by simp [F1], (.gr (by simp [F1]))⟩, trivial⟩ (by simp) ?_
   exact Can.join ((([v9] : List Int), v10)) hF (by simp [F1]) (by simp [F1]) (by simp)
  ·replace hF := ite_f h2 hF
   have h2_ := eqb_f h2
   have h2__ := neb_t h2
   have F2 := And.intro h2 (And.intro h2_ h2__)
   refine CF (by simp [F2] <;> omega) ?_
   refine AW.skip ?_
   refine hK14 _ _ _ ?_
   exact Can.join ((v5, v6)) hF (by simp [F2]) (by simp [F2]) (by simp)
 ·rintro ⟨v7, v8⟩ hF
  try dsimp only at hF
  unfold mill_Keys_o.J1 at hF
  refine SQ [] [none, none] fun _ _ g r => ?_
  try simp
  and_intros <;> first | exact g _ (by kernel_rfl) | refine r _ _ _ ?_ | omega | (simp [maxLen] <;> omega)
  refine WK [(4, AV.slc 1 0 1 v7.length false)] [(0, .cells [Lz v0, Iz v8]), (1, .grow (List.map (AV.int .i64) v7))] 2 (by simp) (by simp) ?_
  simp only [Option.some.injEq, Prod.mk.injEq] at hF
  obtain ⟨e0, e1⟩ := hF
  subst e0 e1
  refine AW.ret (hQ _ _ _ ?_ (matchO_0 ?_)).1
  ·simp [Try.f49]
  ·simp
theorem w_ref24_Has (k : Nat) (v0 : (List Int)) (v1 : Int) (v2 : Bool) (hF : ref24_Has k v0 v1 = some v2) :
  FCall Try.prog 54 [AV.lst false false (List.map (AV.int .i64) v0), AV.int .i64 v1] [] (AV.bool v2) [] := by
 unfold ref24_Has at hF
 refine EN Try.func54 ?_
 intro c0 w0 Q h0 hQ
 refine WK [(0, Lz v0), (1, Iz v1)] [] 0 (by simp) (by simp) ?_
 refine SQ [] [none] fun _ _ g r => ?_
 try simp
 and_intros <;> first | exact g _ (by kernel_rfl) | refine r _ _ _ ?_ | omega | (simp [maxLen] <;> omega)
 refine WK [(0, Lz v0), (1, Iz v1)] [] 0 (by simp) (by simp) ?_
 refine AW.seq fun K119 hK119 => ?_
 refine SQ [] [none] fun _ _ g r => ?_
 try simp
 and_intros <;> first | exact g _ (by kernel_rfl) | refine r _ _ _ ?_ | omega | (simp [maxLen] <;> omega)
 refine WK [(0, Lz v0), (1, Iz v1), (5, Iz 0)] [] 0 (by simp) (by simp) ?_
 refine AW.block ?_
 refine AW.loopF (α := Int) (fun n v3 => ref24_Has.L1 k v0 v1 n v3 = some v2) (fun v3 => [(0, Lz v0), (1, Iz v1), (5, Iz v3)]) (fun v3 => []) 0 k (0) hF (by simp) (by simp) (by simp) ?_
 rintro (_|n1) v3 hF K148 hK148
 ·try dsimp only at hF
  rw [ref24_Has.L1] at hF; cases hF
 try dsimp only at hF
 rw [ref24_Has.L1] at hF
 refine AW.seq fun K150 hK150 => ?_
 refine SQ [] [none, none, none, none] fun _ _ g r => ?_
 try simp
 and_intros <;> first | exact g _ (by kernel_rfl) | refine r _ _ _ ?_ | omega | (simp [maxLen] <;> omega)
 refine WK [(0, Lz v0), (1, Iz v1), (5, Iz v3), (9, AV.bool (decide (v3 < (v0.length : Int))))] [] 0 (by simp) (by simp) ?_
 by_cases h1 : v3 < (v0.length : Int)
 ·replace hF := ite_t h1 hF
  have h1_ := h1
  try simp at h1_
  refine CT (by simp [h1, h1_] <;> omega) ?_
  refine AW.skip ?_
  refine hK150 _ _ _ ?_
  refine AW.seq fun K154 hK154 => ?_
  refine AW.block ?_
  refine SQ [] [none, none, none, none, none, none] fun _ _ g r => ?_
  obtain ⟨v4, h2, h3, h4, hF⟩ := idx_elim hF
  have h4_ := get_of h4
  try simp at h4_
  have h3_ := h3
  try simp at h3_
  have F1 := And.intro h1 (And.intro h1_ (And.intro h2 (And.intro h3 (And.intro h4 (And.intro h4_ h3_)))))
  try simp [F1]
  and_intros <;> first | exact g _ (by kernel_rfl) | refine r _ _ _ ?_ | omega | (simp [maxLen, F1] <;> omega)
  refine WK [(0, Lz v0), (1, Iz v1), (5, Iz v3), (17, AV.bool (v4 == v1))] [] 0 (by simp [F1]) (by simp [F1]) ?_
  by_cases h5 : v4 = v1
  ·replace hF := ite_t h5 hF
   have h5q : v4 = v1 := h5
   have h5_ := eqb_t h5q
   have h5__ := neb_f h5q
   have F2 := And.intro F1 (And.intro h5_ h5__)
   refine CT (by simp [F2] <;> omega) ?_
   refine SQ [] [none] fun _ _ g r => ?_
   try simp [F2]
   and_intros <;> first | exact g _ (by kernel_rfl) | refine r _ _ _ ?_ | omega | (simp [maxLen, F2] <;> omega)
   refine WK [(4, AV.bool true)] [] 0 (by simp [F2]) (by simp [F2]) ?_
   simp only [Option.some.injEq] at hF
   subst hF
   refine AW.ret (hQ _ _ _ ?_ (matchO_0 ?_)).1
   ·simp [Try.f54, F2]
   ·simp [F2]
  ·replace hF := ite_f h5 hF
   have h5_ := eqb_f h5
   have h5__ := neb_t h5
   have F3 := And.intro F1 (And.intro h5 (And.intro h5_ h5__))
   refine CF (by simp [F3] <;> omega) ?_
   refine AW.skip ?_
   refine hK154 _ _ _ ?_
   refine RG [] [none, none, none] fun _ _ g r => ?_
   try simp [F3]
   and_intros <;> first | exact g _ (by kernel_rfl) | refine r _ _ _ ?_ | omega | (simp [maxLen, F3] <;> omega)
   refine hK148 _ _ _ ?_
   exact Can.next (k' := n1) (IntKind.wrap .i64 (v3 + 1)) (by omega) hF (by simp [F3]) (by simp [F3]) (by simp)
 ·replace hF := ite_f h1 hF
  have h1_ := h1
  try simp at h1_
  refine CF (by simp [h1, h1_] <;> omega) ?_
  refine AW.exit ?_
  try simp
  refine hK119 _ _ _ ?_
  refine SQ [] [none] fun _ _ g r => ?_
  try simp [h1, h1_]
  and_intros <;> first | exact g _ (by kernel_rfl) | refine r _ _ _ ?_ | omega | (simp [h1, h1_, maxLen] <;> omega)
  refine WK [(4, AV.bool false)] [] 0 (by simp [h1, h1_]) (by simp [h1, h1_]) ?_
  simp only [Option.some.injEq] at hF
  subst hF
  refine AW.ret (hQ _ _ _ ?_ (matchO_0 ?_)).1
  ·simp [Try.f54, h1, h1_]
  ·simp [h1, h1_]
theorem w_ref24_Minus (k : Nat) (v0 : (List Int)) (v1 : (List Int)) (v2 : (List Int)) (hF : ref24_Minus k v0 v1 = some v2) :
  FCall Try.prog 69 [AV.lst false false (List.map (AV.int .i64) v0), AV.lst false false (List.map (AV.int .i64) v1)] [] (AV.slc 0 0 1 v2.length false) [some (.grow (List.map (AV.int .i64) v2))] := by
 unfold ref24_Minus at hF
 refine EN Try.func69 ?_
 intro c0 w0 Q h0 hQ
 refine WK [(0, Lz v0), (1, Lz v1)] [] 0 (by simp) (by simp) ?_
 refine SQ [] [none] fun _ _ g r => ?_
 try simp
 and_intros <;> first | exact g _ (by kernel_rfl) | refine r _ _ _ ?_ | omega | (simp [maxLen] <;> omega)
 refine WK [(0, Lz v0), (1, Lz v1)] [] 0 (by simp) (by simp) ?_
 refine SQ [] [none] fun _ _ g r => ?_
 try simp
 and_intros <;> first | exact g _ (by kernel_rfl) | refine r _ _ _ ?_ | omega | (simp [maxLen] <;> omega)
 refine WK [(0, Lz v0), (1, Lz v1), (5, AV.lst true true (List.map (AV.int .i64) ([] : List Int)))] [] 0 (by simp) (by simp) ?_
 refine AW.seq fun K121 hK121 => ?_
 refine SQ [] [none] fun _ _ g r => ?_
 try simp
 and_intros <;> first | exact g _ (by kernel_rfl) | refine r _ _ _ ?_ | omega | (simp [maxLen] <;> omega)
 refine WK [(0, Lz v0), (1, Lz v1), (5, AV.lst true true (List.map (AV.int .i64) ([] : List Int))), (6, Iz 0)] [] 0 (by simp) (by simp) ?_
 refine AW.block ?_
 refine AW.own' 5 1 true (by simp) (by decide) ?_
 refine AW.loopF (α := (Int × (List Int))) (fun n (v3, v4) => ref24_Minus.L1 k v0 v1 n v3 v4 = some v2) (fun (v3, v4) => [(0, Lz v0), (1, Lz v1), (5, AV.slc 0 0 1 v4.length false), (6, Iz v3)]) (fun (v3, v4) => [(0, .grow (List.map (AV.int .i64) v4))]) 1 k ((0, ([] : List Int))) hF (by simp) (by simp) (by simp) ?_
 rintro (_|n1) ⟨v3, v4⟩ hF K150 hK150
 ·try dsimp only at hF
  rw [ref24_Minus.L1] at hF; cases hF
 try dsimp only at hF
 rw [ref24_Minus.L1] at hF
 refine AW.seq fun K152 hK152 => ?_
 refine SQ [] [none, none] fun _ _ g r => ?_
 try simp
 and_intros <;> first | exact g _ (by kernel_rfl) | refine r _ _ _ ?_ | omega | (simp [maxLen] <;> omega)
 refine WK [(0, Lz v0), (1, Lz v1), (5, AV.slc 0 0 1 v4.length false), (6, Iz v3), (8, AV.bool (decide (v3 < 64)))] [(0, .grow (List.map (AV.int .i64) v4))] 1 (by simp) (by simp) ?_
 by_cases h1 : v3 < 64
 ·replace hF := ite_t h1 hF
  have h1_ := h1
  try simp at h1_
  refine CT (by simp [h1, h1_] <;> omega) ?_
  refine AW.skip ?_
  refine hK152 _ _ _ ?_
  refine AW.midF (α := (List Int)) (fun v5 => ref24_Minus.J2 k v3 (fun v3_ v4_ => ref24_Minus.L1 k v0 v1 n1 v3_ v4_) v5 = some v2) (fun v5 => [(0, Lz v0), (1, Lz v1), (5, AV.slc 0 0 1 v5.length false), (6, Iz v3)]) (fun v5 => [(0, .grow (List.map (AV.int .i64) v5))]) 1 (fun K157 hK157 => ?_) ?_
  ·refine AW.block ?_
   refine SQ [] [none, none, none, none, some (14, true), some (14, true), some (14, true), some (14, true), none] fun _ _ g r => ?_
   try simp [h1, h1_]
   and_intros
   try any_goals first | omega | (simp [h1, h1_, maxLen] <;> omega)
   obtain ⟨v6, h2, hF⟩ := bnd1_elim hF
   refine AC (w_ref24_Has k _ _ _ h2) (.cons (.same (by simp [h1, h1_])) (.cons (.same (by simp [h1, h1_])) .nil)) ?_
   by_cases h3 : v6 = true
   ·replace hF := ite_t h3 hF
    have h3_ := h3
    try simp at h3_
    have F1 := And.intro h1 (And.intro h1_ (And.intro h3 h3_))
    try simp [F1]
    and_intros
    try any_goals first | omega | (simp [maxLen, F1] <;> omega)
    obtain ⟨v7, h4, hF⟩ := bnd1_elim hF
    refine AC (w_ref24_Has k _ _ _ h4) (.cons (.same (by simp [F1])) (.cons (.same (by simp [F1])) .nil)) ?_
    try simp [F1]
    and_intros <;> first | exact g _ (by kernel_rfl) | refine r _ _ _ ?_ | omega | (simp [maxLen, F1] <;> omega)
    refine WK [(0, Lz v0), (1, Lz v1), (5, AV.slc 0 0 1 v4.length false), (6, Iz v3), (19, AV.bool (!v7))] [(0, .grow (List.map (AV.int .i64) v4))] 1 (by simp [F1]) (by simp [F1]) ?_
    by_cases h5 : (!v7) = true
    ·replace hF := ite_t h5 hF
     have h5_ := h5
     try simp at h5_
     have F2 := And.intro F1 (And.intro h5 h5_)
     refine CT (by simp [F2] <;> omega) ?_
     refine RG [] [none, none, none, none, none] fun _ _ g r => ?_
     obtain ⟨h6, hF⟩ := chk_elim hF
     have h6_ := h6
     try simp at h6_
     have F3 := And.intro F2 h6
     try simp [F3]
     and_intros <;> first | exact g _ (by kernel_rfl) | refine r _ _ _ ?_ | omega | (simp [maxLen, F3] <;> omega)
     refine hK157 _ _ _ ?_
     refine RN h0 [(0, 1)] [(0, Lz v0), (1, Lz v1), (5, AV.slc 0 0 1 ((v4 ++ ([v3] : List Int)).length) false), (6, Iz v3)] [(0, .grow (List.map (AV.int .i64) (v4 ++ ([v3] : List Int))))] 1 (by simp [F3] <;> omega) (by simp [F3]) ?_
     exact Can.join (v4 ++ ([v3] : List Int)) hF (by simp [F3]) (by simp [F3]) (by simp)
    ·replace hF := ite_f h5 hF
     have h5_ := h5
     try simp at h5_
     have F4 := And.intro F1 (And.intro h5 h5_)
     refine CF (by simp [F4] <;> omega) ?_
     refine AW.skip ?_
     refine hK157 _ _ _ ?_
     exact Can.join (v4) hF (by simp [F4]) (by simp [F4]) (by simp)
   ·replace hF := ite_f h3 hF
    have h3_ := h3
    try simp at h3_
    have F5 := And.intro h1 (And.intro h1_ (And.intro h3 h3_))
    try simp [F5]
    and_intros <;> first | exact g _ (by kernel_rfl) | refine r _ _ _ ?_ | omega | (simp [maxLen, F5] <;> omega)
    refine WK [(0, Lz v0), (1, Lz v1), (5, AV.slc 0 0 1 v4.length false), (6, Iz v3), (19, AV.bool false)] [(0, .grow (List.map (AV.int .i64) v4))] 1 (by simp [F5]) (by simp [F5]) ?_
    refine CF (by simp [F5]) ?_
    refine AW.skip ?_
    refine hK157 _ _ _ ?_
    exact Can.join (v4) hF (by simp [F5]) (by simp [F5]) (by simp)
  ·rintro v5 hF
   try dsimp only at hF
   unfold ref24_Minus.J2 at hF
   refine RG [] [none, none, none] fun _ _ g r => ?_
   try simp [h1, h1_]
   and_intros <;> first | exact g _ (by kernel_rfl) | refine r _ _ _ ?_ | omega | (simp [h1, h1_, maxLen] <;> omega)
   refine hK150 _ _ _ ?_
   exact Can.next (k' := n1) ((IntKind.wrap .i64 (v3 + 1), v5)) (by omega) hF (by simp [h1, h1_]) (by simp [h1, h1_]) (by simp)
 ·replace hF := ite_f h1 hF
  have h1_ := h1
  try simp at h1_
  refine CF (by simp [h1, h1_] <;> omega) ?_
  refine AW.exit ?_
  try simp
  refine hK121 _ _ _ ?_
  refine SQ [] [none, none] fun _ _ g r => ?_
  try simp [h1, h1_]
  and_intros <;> first | exact g _ (by kernel_rfl) | refine r _ _ _ ?_ | omega | (simp [h1, h1_, maxLen] <;> omega)
  refine WK [(4, AV.slc 0 0 1 v4.length false)] [(0, .grow (List.map (AV.int .i64) v4))] 1 (by simp [h1, h1_]) (by simp [h1, h1_]) ?_
  simp only [Option.some.injEq] at hF
  subst hF
  refine AW.ret (hQ _ _ _ ?_ (matchO_0 ?_)).1
  ·simp [Try.f69, h1, h1_]
  ·simp [h1, h1_]
theorem w_made_Dice_Of (k : Nat) (v0 : (List Int)) (v1 : Int) (v2 : (List Int)) (v3 : Int) (v4 : Int) (hF : made_Dice_Of k v0 v1 v2 = some (v3, v4)) :
  FCall Try.prog 65 [AV.ptr 0 0, AV.lst false false (List.map (AV.int .i64) v2)] [.cells [AV.lst false false (List.map (AV.int .i64) v0), AV.int .i64 v1]] (AV.int .i64 v3) [some (.cells [AV.lst false false (List.map (AV.int .i64) v0), AV.int .i64 v4])] := by
 unfold made_Dice_Of at hF
 refine EN Try.func65 ?_
 intro c0 w0 Q h0 hQ
 refine WK [(0, AV.ptr 0 0), (1, Lz v2)] [(0, .cells [Lz v0, Iz v1])] 1 (by simp) (by simp) ?_
 refine SQ [] [none] fun _ _ g r => ?_
 try simp
 and_intros <;> first | exact g _ (by kernel_rfl) | refine r _ _ _ ?_ | omega | (simp [maxLen] <;> omega)
 refine WK [(0, AV.ptr 0 0), (1, Lz v2)] [(0, .cells [Lz v0, Iz v1])] 1 (by simp) (by simp) ?_
 refine SQ [] [none, none, none, none, none, none, none, none] fun _ _ g r => ?_
 try simp
 and_intros
 try any_goals first | omega | (simp [maxLen] <;> omega)
 obtain ⟨v5, v6, h1, hF⟩ := bnd2_elim hF
 refine aCall_l (w_made_Dice_Next k _ _ _ _ _ h1) (by simp) [0] [] [0] rfl (.cons (.same (by simp)) (.cons (.same (by simp)) .nil)) (by simp) (by decide) (by simp) (by simp) (.inl rfl) (by simp) (by simp) ?_
 obtain ⟨v7, h2, h3, h4, hF⟩ := idx_elim hF
 have h4_ := get_of h4
 try simp at h4_
 have h3_ := h3
 try simp at h3_
 have F1 := And.intro h2 (And.intro h3 (And.intro h4 (And.intro h4_ h3_)))
 try simp [F1]
 and_intros <;> first | exact g _ (by kernel_rfl) | refine r _ _ _ ?_ | omega | (simp [maxLen, F1] <;> omega)
 refine WK [(4, Iz v7)] [(0, .cells [Lz v0, Iz v6])] 1 (by simp [F1]) (by simp [F1]) ?_
 simp only [Option.some.injEq, Prod.mk.injEq] at hF
 obtain ⟨e0, e1⟩ := hF
 subst e0 e1
 refine AW.ret (hQ _ _ _ ?_ (matchO_0 ?_)).1
 ·simp [Try.f65, F1]
 ·simp [F1]
theorem w_law34_guard (k : Nat) (v0 : (List Int)) (v1 : Int) (v2 : Int) (v3 : Int) (v4 : (List Int)) (v5 : Int) (hF : law34_guard k v0 v1 = some (v2, v3, v4, v5)) :
  FCall Try.prog 23 [AV.ptr 0 0] [.cells [AV.lst false false (List.map (AV.int .i64) v0), AV.int .i64 v1]] (AV.agg [AV.int .i64 v2, AV.int .i64 v3, AV.lst false false (List.map (AV.int .i64) v4)]) [some (.cells [AV.lst false false (List.map (AV.int .i64) v0), AV.int .i64 v5])] := by
 unfold law34_guard at hF
 refine EN Try.func23 ?_
 intro c0 w0 Q h0 hQ
 refine WK [(0, AV.ptr 0 0)] [(0, .cells [Lz v0, Iz v1])] 1 (by simp) (by simp) ?_
 refine SQ [] [none] fun _ _ g r => ?_
 try simp
 and_intros <;> first | exact g _ (by kernel_rfl) | refine r _ _ _ ?_ | omega | (simp [maxLen] <;> omega)
 refine WK [(0, AV.ptr 0 0), (2, AV.ptr 1 0)] [(0, .cells [Lz v0, Iz v1]), (1, .cells [Iz 0, Iz 0, AV.lst true true (List.map (AV.int .i64) ([] : List Int))])] 2 (by simp) (by simp) ?_
 refine SQ [] [none, none, none, none, none, none, none] fun _ _ g r => ?_
 try simp
 and_intros
 try any_goals first | omega | (simp [maxLen] <;> omega)
 obtain ⟨v6, v7, h1, hF⟩ := bnd2_elim hF
 refine aCall_l (w_made_Dice_Next k _ _ _ _ _ h1) (by simp) [0] [] [0] rfl (.cons (.same (by simp)) (.cons (.same (by simp)) .nil)) (by simp) (by decide) (by simp) (by simp) (.inl rfl) (by simp) (by simp) ?_
 try simp
 and_intros
 try any_goals first | omega | (simp [maxLen] <;> omega)
 obtain ⟨v8, v9, h2, hF⟩ := bnd2_elim hF
 refine aCall_l (w_mill_Keys_o k _ _ _ _ _ h2) (by simp) [0] [] [0] rfl (.cons (.same (by simp)) (.cons (.same (by simp)) .nil)) (by simp) (by decide) (by simp) (by simp) (.inl rfl) (by simp) (by simp) ?_
 try simp
 and_intros <;> first | exact g _ (by kernel_rfl) | refine r _ _ _ ?_ | omega | (simp [maxLen] <;> omega)
 refine WK [(0, AV.ptr 0 0), (2, AV.ptr 1 0), (3, AV.ptr 3 0)] [(0, .cells [Lz v0, Iz v9]), (1, .cells [Iz 0, Iz 0, AV.lst true true (List.map (AV.int .i64) ([] : List Int))]), (2, .grow (List.map (AV.int .i64) v8)), (3, .cells [Iz v6, Iz 0, AV.slc 2 0 1 v8.length false])] 4 (by simp) (by simp) ?_
 refine SQ [] [none, none, none, none, none, none, none, none] fun _ _ g r => ?_
 try simp
 and_intros
 try any_goals first | omega | (simp [maxLen] <;> omega)
 obtain ⟨v10, h3, hF⟩ := bnd1_elim hF
 refine aCall_l (w_ref24_Minus k _ _ _ h3) (by simp) [] [2] [] rfl (.cons (Coe.l (o := .grow (List.map (AV.int .i64) v8)) (by simp) rfl (by simp) (by simp [noIdsL]) (by simp) (by simp)) (.cons (Coe.fl (by simp)) .nil)) (by simp) (by decide) (by simp) (by simp) (.inr ⟨by simp, by simp⟩) (by simp) (by simp) ?_
 try simp
 and_intros <;> first | exact g _ (by kernel_rfl) | refine r _ _ _ ?_ | omega | (simp [maxLen] <;> omega)
 refine WK [(0, AV.ptr 0 0), (2, AV.ptr 1 0), (3, AV.ptr 3 0)] [(0, .cells [Lz v0, Iz v9]), (1, .cells [Iz 0, Iz 0, AV.lst true true (List.map (AV.int .i64) ([] : List Int))]), (3, .cells [Iz v6, Iz 0, AV.slc 4 0 1 v10.length false]), (4, .grow (List.map (AV.int .i64) v10))] 5 (by simp) (by simp) ?_
 refine SQ [] [none, none, none, none, none, none, none, none, none] fun _ _ g r => ?_
 obtain ⟨v11, h4, hF⟩ := let1_elim hF
 have h4_ := h4
 try simp at h4_
 try simp [h4, h4_]
 and_intros
 try any_goals first | omega | (simp [h4, h4_, maxLen] <;> omega)
 obtain ⟨v12, v13, h5, hF⟩ := bnd2_elim hF
 refine aCall_l (w_made_Dice_Next k _ _ _ _ _ h5) (by simp) [0] [] [0] rfl (.cons (.same (by simp [h4, h4_])) (.cons (.same (by simp [h4, h4_])) .nil)) (by simp [h4, h4_]) (by decide) (by simp) (by simp) (.inl rfl) (by simp) (by simp) ?_
 try simp [h4, h4_]
 and_intros <;> first | exact g _ (by kernel_rfl) | refine r _ _ _ ?_ | omega | (simp [h4, h4_, maxLen] <;> omega)
 refine WK [(0, AV.ptr 0 0), (2, AV.ptr 1 0), (3, AV.ptr 3 0)] [(0, .cells [Lz v0, Iz v13]), (1, .cells [Iz 0, Iz 0, AV.lst true true (List.map (AV.int .i64) ([] : List Int))]), (3, .cells [Iz v6, Iz (IntKind.wrap .i64 (1 + v12)), AV.slc 4 0 1 v10.length false]), (4, .grow (List.map (AV.int .i64) v10))] 5 (by simp [h4, h4_]) (by simp [h4, h4_]) ?_
 refine AW.midF (α := (Int × Int × (List Int) × Int)) (fun (v14, v15, v16, v17) => law34_guard.J1 k v14 v15 v16 v17 = some (v2, v3, v4, v5)) (fun (v14, v15, v16, v17) => [(2, AV.ptr 1 0), (3, AV.ptr 2 0)]) (fun (v14, v15, v16, v17) => [(0, .cells [Lz v0, Iz v17]), (1, .cells [Iz 0, Iz 0, AV.lst true true (List.map (AV.int .i64) ([] : List Int))]), (2, .cells [Iz v14, Iz v15, Lz v16])]) 3 (fun K45 hK45 => ?_) ?_
 ·refine SQ [] [none, none] fun _ _ g r => ?_
  try simp [h4, h4_]
  and_intros
  try any_goals first | omega | (simp [h4, h4_, maxLen] <;> omega)
  obtain ⟨v18, v19, h6, hF⟩ := bnd2_elim hF
  refine aCall_l (w_made_Dice_Next k _ _ _ _ _ h6) (by simp) [0] [] [0] rfl (.cons (.same (by simp [h4, h4_])) (.cons (.same (by simp [h4, h4_])) .nil)) (by simp [h4, h4_]) (by decide) (by simp) (by simp) (.inl rfl) (by simp) (by simp) ?_
  try simp [h4, h4_]
  and_intros <;> first | exact g _ (by kernel_rfl) | refine r _ _ _ ?_ | omega | (simp [h4, h4_, maxLen] <;> omega)
  refine WK [(0, AV.ptr 0 0), (2, AV.ptr 1 0), (3, AV.ptr 3 0), (25, Iz v18)] [(0, .cells [Lz v0, Iz v19]), (1, .cells [Iz 0, Iz 0, AV.lst true true (List.map (AV.int .i64) ([] : List Int))]), (3, .cells [Iz v6, Iz (IntKind.wrap .i64 (1 + v12)), AV.slc 4 0 1 v10.length false]), (4, .grow (List.map (AV.int .i64) v10))] 5 (by simp [h4, h4_]) (by simp [h4, h4_]) ?_
  refine AW.block ?_
  refine SQ [] [none, none] fun _ _ g r => ?_
  try simp [h4, h4_]
  and_intros <;> first | exact g _ (by kernel_rfl) | refine r _ _ _ ?_ | omega | (simp [h4, h4_, maxLen] <;> omega)
  refine WK [(0, AV.ptr 0 0), (2, AV.ptr 1 0), (3, AV.ptr 3 0), (25, Iz v18), (26, AV.bool (v18 == 0))] [(0, .cells [Lz v0, Iz v19]), (1, .cells [Iz 0, Iz 0, AV.lst true true (List.map (AV.int .i64) ([] : List Int))]), (3, .cells [Iz v6, Iz (IntKind.wrap .i64 (1 + v12)), AV.slc 4 0 1 v10.length false]), (4, .grow (List.map (AV.int .i64) v10))] 5 (by simp [h4, h4_]) (by simp [h4, h4_]) ?_
  by_cases h7 : v18 = 0
  ·replace hF := ite_t h7 hF
   have h7q : v18 = 0 := h7
   have h7_ := eqb_t h7q
   have h7__ := neb_f h7q
   have F1 := And.intro h4 (And.intro h4_ (And.intro h7_ (And.intro h7__ h7q)))
   refine CT (by simp [F1] <;> omega) ?_
   refine RG [] [none, none, none, none, none] fun _ _ g r => ?_
   try simp [F1]
   and_intros
   try any_goals first | omega | (simp [maxLen, F1] <;> omega)
   obtain ⟨v20, v21, h8, hF⟩ := bnd2_elim hF
   refine aCall_l (w_made_Dice_Of k _ _ _ _ _ h8) (by simp) [0] [] [0] rfl (.cons (.same (by simp [F1])) (.cons (Coe.fl (by simp [F1])) .nil)) (by simp [F1]) (by decide) (by simp) (by simp) (.inl rfl) (by simp) (by simp) ?_
   try simp [F1]
   and_intros <;> first | exact g _ (by kernel_rfl) | refine r _ _ _ ?_ | omega | (simp [maxLen, F1] <;> omega)
   refine hK45 _ _ _ ?_
   refine Can.weak [(2, AV.ptr 1 0), (3, AV.ptr 3 0)] [(0, .cells [Lz v0, Iz v21]), (1, .cells [Iz 0, Iz 0, AV.lst true true (List.map (AV.int .i64) ([] : List Int))]), (3, .cells [Iz v6, Iz v20, AV.slc 4 0 1 v10.length false]), (4, .grow (List.map (AV.int .i64) v10))] 5 (by simp [F1]) (by simp [F1]) (by simp) ?_
   refine Can.freeze 4 (o := .grow (List.map (AV.int .i64) v10)) (by simp [F1]) rfl [] [(3, .cells [Iz v6, Iz v20, Lz v10])] trivial ⟨⟨by simp, AObj.cells [Iz v6, Iz v20, AV.slc 4 0 1 v10.length false], by simp [F1], (.mk (.cons (.same _) (.cons (.same _) (.cons (.l (by simp) (by simp) (by simp) (by simp)) .nil))))⟩, trivial⟩ ?_
   refine Can.ren (m := 1) h0 [(0, 0), (1, 1), (2, 3)] [(2, AV.ptr 1 0), (3, AV.ptr 2 0)] [(0, .cells [Lz v0, Iz v21]), (1, .cells [Iz 0, Iz 0, AV.lst true true (List.map (AV.int .i64) ([] : List Int))]), (2, .cells [Iz v6, Iz v20, Lz v10])] 3 (by decide) (by decide) (by decide) rfl (by simp [F1]) (by simp [F1]) ?_
   exact Can.join ((v6, v20, v10, v21)) hF (by simp [F1]) (by simp [F1]) (by simp)
  ·replace hF := ite_f h7 hF
   have h7_ := eqb_f h7
   have h7__ := neb_t h7
   have F2 := And.intro h4 (And.intro h4_ (And.intro h7 (And.intro h7_ h7__)))
   refine CF (by simp [F2] <;> omega) ?_
   refine SQ [] [none, none] fun _ _ g r => ?_
   try simp [F2]
   and_intros <;> first | exact g _ (by kernel_rfl) | refine r _ _ _ ?_ | omega | (simp [maxLen, F2] <;> omega)
   refine WK [(0, AV.ptr 0 0), (2, AV.ptr 1 0), (3, AV.ptr 3 0), (25, Iz v18), (32, AV.bool (v18 == 1))] [(0, .cells [Lz v0, Iz v19]), (1, .cells [Iz 0, Iz 0, AV.lst true true (List.map (AV.int .i64) ([] : List Int))]), (3, .cells [Iz v6, Iz (IntKind.wrap .i64 (1 + v12)), AV.slc 4 0 1 v10.length false]), (4, .grow (List.map (AV.int .i64) v10))] 5 (by simp [F2]) (by simp [F2]) ?_
   by_cases h9 : v18 = 1
   ·replace hF := ite_t h9 hF
    have h9q : v18 = 1 := h9
    have h9_ := eqb_t h9q
    have h9__ := neb_f h9q
    refine CT (by simp [F2, h9_, h9__, h9q] <;> omega) ?_
    refine RG [] [none, none, none, none, none, none, none, none] fun _ _ g r => ?_
    obtain ⟨h10, hF⟩ := chk_elim hF
    have h10_ := h10
    try simp at h10_
    have F3 := And.intro F2 (And.intro h9_ (And.intro h9__ (And.intro h9q h10)))
    try simp [F3]
    and_intros <;> first | exact g _ (by kernel_rfl) | refine r _ _ _ ?_ | omega | (simp [maxLen, F3] <;> omega)
    refine hK45 _ _ _ ?_
    refine Can.weak [(2, AV.ptr 1 0), (3, AV.ptr 3 0)] [(0, .cells [Lz v0, Iz v19]), (1, .cells [Iz 0, Iz 0, AV.lst true true (List.map (AV.int .i64) ([] : List Int))]), (3, .cells [Iz v6, Iz (IntKind.wrap .i64 (1 + v12)), AV.slc 5 0 1 ((v10 ++ ([v6] : List Int)).length) false]), (5, .grow (List.map (AV.int .i64) (v10 ++ ([v6] : List Int))))] 6 (by simp [F3]) (by simp [F3]) (by simp) ?_
    refine Can.freeze 5 (o := .grow (List.map (AV.int .i64) (v10 ++ ([v6] : List Int)))) (by simp [F3]) rfl [] [(3, .cells [Iz v6, Iz (IntKind.wrap .i64 (1 + v12)), AV.lst false false (List.map (AV.int .i64) (v10 ++ ([v6] : List Int)))])] trivial ⟨⟨by simp, AObj.cells [Iz v6, Iz (IntKind.wrap .i64 (1 + v12)), AV.slc 5 0 1 ((v10 ++ ([v6] : List Int)).length) false], by simp [F3], (.mk (.cons (.same _) (.cons (.same _) (.cons (.l (by simp) (by simp) (by simp) (by simp)) .nil))))⟩, trivial⟩ ?_
    refine Can.ren (m := 1) h0 [(0, 0), (1, 1), (2, 3)] [(2, AV.ptr 1 0), (3, AV.ptr 2 0)] [(0, .cells [Lz v0, Iz v19]), (1, .cells [Iz 0, Iz 0, AV.lst true true (List.map (AV.int .i64) ([] : List Int))]), (2, .cells [Iz v6, Iz (IntKind.wrap .i64 (1 + v12)), AV.lst false false (List.map (AV.int .i64) (v10 ++ ([v6] : List Int)))])] 3 (by decide) (by decide) (by decide) rfl (by simp [F3]) (by simp [F3]) ?_
    exact Can.join ((v6, IntKind.wrap .i64 (1 + v12), v10 ++ ([v6] : List Int), v19)) hF (by simp [F3]) (by simp [F3]) (by simp)
   ·replace hF := ite_f h9 hF
    have h9_ := eqb_f h9
    have h9__ := neb_t h9
    have F4 := And.intro F2 (And.intro h9 (And.intro h9_ h9__))
    refine CF (by simp [F4] <;> omega) ?_
    refine SQ [] [none, none] fun _ _ g r => ?_
    try simp [F4]
    and_intros <;> first | exact g _ (by kernel_rfl) | refine r _ _ _ ?_ | omega | (simp [maxLen, F4] <;> omega)
    refine WK [(0, AV.ptr 0 0), (2, AV.ptr 1 0), (3, AV.ptr 3 0), (25, Iz v18), (41, AV.bool (v18 == 2))] [(0, .cells [Lz v0, Iz v19]), (1, .cells [Iz 0, Iz 0, AV.lst true true (List.map (AV.int .i64) ([] : List Int))]), (3, .cells [Iz v6, Iz (IntKind.wrap .i64 (1 + v12)), AV.slc 4 0 1 v10.length false]), (4, .grow (List.map (AV.int .i64) v10))] 5 (by simp [F4]) (by simp [F4]) ?_
    by_cases h11 : v18 = 2
    ·replace hF := ite_t h11 hF
     have h11q : v18 = 2 := h11
     have h11_ := eqb_t h11q
     have h11__ := neb_f h11q
     have F5 := And.intro F4 (And.intro h11_ (And.intro h11__ h11q))
     refine CT (by simp [F5] <;> omega) ?_
     refine RG [] [none, none, none, none, none] fun _ _ g r => ?_
     try simp [F5]
     and_intros
     try any_goals first | omega | (simp [maxLen, F5] <;> omega)
     obtain ⟨v22, v23, h12, hF⟩ := bnd2_elim hF
     refine aCall_l (w_made_Dice_Of k _ _ _ _ _ h12) (by simp) [0] [] [0] rfl (.cons (.same (by simp [F5])) (.cons (Coe.fl (by simp [F5])) .nil)) (by simp [F5]) (by decide) (by simp) (by simp) (.inl rfl) (by simp) (by simp) ?_
     try simp [F5]
     and_intros <;> first | exact g _ (by kernel_rfl) | refine r _ _ _ ?_ | omega | (simp [maxLen, F5] <;> omega)
     refine hK45 _ _ _ ?_
     refine Can.weak [(2, AV.ptr 1 0), (3, AV.ptr 3 0)] [(0, .cells [Lz v0, Iz v23]), (1, .cells [Iz 0, Iz 0, AV.lst true true (List.map (AV.int .i64) ([] : List Int))]), (3, .cells [Iz v22, Iz (IntKind.wrap .i64 (1 + v12)), AV.slc 4 0 1 v10.length false]), (4, .grow (List.map (AV.int .i64) v10))] 5 (by simp [F5]) (by simp [F5]) (by simp) ?_
     refine Can.freeze 4 (o := .grow (List.map (AV.int .i64) v10)) (by simp [F5]) rfl [] [(3, .cells [Iz v22, Iz (IntKind.wrap .i64 (1 + v12)), Lz v10])] trivial ⟨⟨by simp, AObj.cells [Iz v22, Iz (IntKind.wrap .i64 (1 + v12)), AV.slc 4 0 1 v10.length false], by simp [F5], (.mk (.cons (.same _) (.cons (.same _) (.cons (.l (by simp) (by simp) (by simp) (by simp)) .nil))))⟩, trivial⟩ ?_
     refine Can.ren (m := 1) h0 [(0, 0), (1, 1), (2, 3)] [(2, AV.ptr 1 0), (3, AV.ptr 2 0)] [(0, .cells [Lz v0, Iz v23]), (1, .cells [Iz 0, Iz 0, AV.lst true true (List.map (AV.int .i64) ([] : List Int))]), (2, .cells [Iz v22, Iz (IntKind.wrap .i64 (1 + v12)), Lz v10])] 3 (by decide) (by decide) (by decide) rfl (by simp [F5]) (by simp [F5]) ?_
     exact Can.join ((v22, IntKind.wrap .i64 (1 + v12), v10, v23)) hF (by simp [F5]) (by simp [F5]) (by simp)
    ·replace hF := ite_f h11 hF
     have h11_ := eqb_f h11
     have h11__ := neb_t h11
     have F6 := And.intro F4 (And.intro h11 (And.intro h11_ h11__))
     refine CF (by simp [F6] <;> omega) ?_
     refine SQ [] [none, none] fun _ _ g r => ?_
     try simp [F6]
     and_intros <;> first | exact g _ (by kernel_rfl) | refine r _ _ _ ?_ | omega | (simp [maxLen, F6] <;> omega)
     refine WK [(0, AV.ptr 0 0), (2, AV.ptr 1 0), (3, AV.ptr 3 0), (25, Iz v18), (47, AV.bool (v18 == 3))] [(0, .cells [Lz v0, Iz v19]), (1, .cells [Iz 0, Iz 0, AV.lst true true (List.map (AV.int .i64) ([] : List Int))]), (3, .cells [Iz v6, Iz (IntKind.wrap .i64 (1 + v12)), AV.slc 4 0 1 v10.length false]), (4, .grow (List.map (AV.int .i64) v10))] 5 (by simp [F6]) (by simp [F6]) ?_
     by_cases h13 : v18 = 3
     ·replace hF := ite_t h13 hF
      have h13q : v18 = 3 := h13
      have h13_ := eqb_t h13q
      have h13__ := neb_f h13q
      have F7 := And.intro F6 (And.intro h13_ (And.intro h13__ h13q))
      refine CT (by simp [F7] <;> omega) ?_
      refine RG [49] [none, none, none] fun _ _ g r => ?_
      try simp [F7]
      and_intros <;> first | exact g _ (by kernel_rfl) | refine r _ _ _ ?_ | omega | (simp [maxLen, F7] <;> omega)
      refine hK45 _ _ _ ?_
      refine Can.weak [(2, AV.ptr 1 0), (3, AV.ptr 3 0)] [(0, .cells [Lz v0, Iz v19]), (1, .cells [Iz 0, Iz 0, AV.lst true true (List.map (AV.int .i64) ([] : List Int))]), (3, .cells [Iz v6, Iz (IntKind.wrap .i64 (1 + v12)), AV.slc 5 0 1 (([5, 2] : List Int).length) true]), (5, .cells (List.map (AV.int .i64) ([5, 2] : List Int)))] 6 (by simp [F7]) (by simp [F7]) (by simp) ?_
      refine Can.freeze 5 (o := .cells (List.map (AV.int .i64) ([5, 2] : List Int))) (by simp [F7]) rfl [] [(3, .cells [Iz v6, Iz (IntKind.wrap .i64 (1 + v12)), AV.lst false true (List.map (AV.int .i64) ([5, 2] : List Int))])] trivial ⟨⟨by simp, AObj.cells [Iz v6, Iz (IntKind.wrap .i64 (1 + v12)), AV.slc 5 0 1 (([5, 2] : List Int).length) true], by simp [F7], (.mk (.cons (.same _) (.cons (.same _) (.cons (.l (by simp) (by simp) (by simp) (by simp)) .nil))))⟩, trivial⟩ ?_
      refine Can.ren (m := 1) h0 [(0, 0), (1, 1), (2, 3)] [(2, AV.ptr 1 0), (3, AV.ptr 2 0)] [(0, .cells [Lz v0, Iz v19]), (1, .cells [Iz 0, Iz 0, AV.lst true true (List.map (AV.int .i64) ([] : List Int))]), (2, .cells [Iz v6, Iz (IntKind.wrap .i64 (1 + v12)), AV.lst false true (List.map (AV.int .i64) ([5, 2] : List Int))])] 3 (by decide) (by decide) (by decide) rfl (by simp [F7]) (by simp [F7]) ?_
      refine Can.flg [] [(2, .cells [Iz v6, Iz (IntKind.wrap .i64 (1 + v12)), AV.lst false false (List.map (AV.int .i64) ([5, 2] : List Int))])] trivial ⟨⟨AObj.cells [Iz v6, Iz (IntKind.wrap .i64 (1 + v12)), AV.lst false true (List.map (AV.int .i64) ([5, 2] : List Int))], by simp [F7], (.mk (.cons (.same _) (.cons (.same _) (.cons (.lst (by simp)) .nil))))⟩, trivial⟩ (by simp) ?_
      exact Can.join ((v6, IntKind.wrap .i64 (1 + v12), ([5, 2] : List Int), v19)) hF (by simp [F7]) (by simp [F7]) (by simp)
     ·replace hF := ite_f h13 hF
      have h13_ := eqb_f h13
      have h13__ := neb_t h13
      have F8 := And.intro F6 (And.intro h13 (And.intro h13_ h13__))
      refine CF (by simp [F8] <;> omega) ?_
      refine SQ [] [none, none] fun _ _ g r => ?_
      try simp [F8]
      and_intros <;> first | exact g _ (by kernel_rfl) | refine r _ _ _ ?_ | omega | (simp [maxLen, F8] <;> omega)
      refine WK [(0, AV.ptr 0 0), (2, AV.ptr 1 0), (3, AV.ptr 3 0), (51, AV.bool (v18 == 4))] [(0, .cells [Lz v0, Iz v19]), (1, .cells [Iz 0, Iz 0, AV.lst true true (List.map (AV.int .i64) ([] : List Int))]), (3, .cells [Iz v6, Iz (IntKind.wrap .i64 (1 + v12)), AV.slc 4 0 1 v10.length false]), (4, .grow (List.map (AV.int .i64) v10))] 5 (by simp [F8]) (by simp [F8]) ?_
      by_cases h14 : v18 = 4
      ·replace hF := ite_t h14 hF
       have h14q : v18 = 4 := h14
       have h14_ := eqb_t h14q
       have h14__ := neb_f h14q
       have F9 := And.intro F8 (And.intro h14_ (And.intro h14__ h14q))
       refine CT (by simp [F9] <;> omega) ?_
       refine RG [] [none, none, none, none, none, none, none] fun _ _ g r => ?_
       try simp [F9]
       and_intros
       try any_goals first | omega | (simp [maxLen, F9] <;> omega)
       obtain ⟨v24, v25, h15, hF⟩ := bnd2_elim hF
       refine aCall_l (w_made_Dice_Next k _ _ _ _ _ h15) (by simp) [0] [] [0] rfl (.cons (.same (by simp [F9])) (.cons (.same (by simp [F9])) .nil)) (by simp [F9]) (by decide) (by simp) (by simp) (.inl rfl) (by simp) (by simp) ?_
       obtain ⟨⟨h16, h17⟩, hF⟩ := chk_elim hF
       have h16_ := h16
       try simp at h16_
       have h17_ := h17
       try simp at h17_
       have F10 := And.intro F9 (And.intro h16 (And.intro h17 (And.intro h16_ h17_)))
       try simp [F10]
       and_intros <;> first | exact g _ (by kernel_rfl) | refine r _ _ _ ?_ | omega | (simp [maxLen, F10] <;> omega)
       refine hK45 _ _ _ ?_
       refine Can.weak [(2, AV.ptr 1 0), (3, AV.ptr 3 0)] [(0, .cells [Lz v0, Iz v25]), (1, .cells [Iz 0, Iz 0, AV.lst true true (List.map (AV.int .i64) ([] : List Int))]), (3, .cells [Iz v6, Iz (IntKind.wrap .i64 (1 + v12)), AV.lst false false (List.map (AV.int .i64) (([0, 1, 2, 3, 4, 5, 6, 7, 8, 9, 10, 11, 12] : List Int).take (IntKind.wrap .i64 (12 + v24)).toNat))])] 5 (by simp [F10]) (by simp [F10]) (by simp) ?_
       refine Can.ren (m := 1) h0 [(0, 0), (1, 1), (2, 3)] [(2, AV.ptr 1 0), (3, AV.ptr 2 0)] [(0, .cells [Lz v0, Iz v25]), (1, .cells [Iz 0, Iz 0, AV.lst true true (List.map (AV.int .i64) ([] : List Int))]), (2, .cells [Iz v6, Iz (IntKind.wrap .i64 (1 + v12)), AV.lst false false (List.map (AV.int .i64) (([0, 1, 2, 3, 4, 5, 6, 7, 8, 9, 10, 11, 12] : List Int).take (IntKind.wrap .i64 (12 + v24)).toNat))])] 3 (by decide) (by decide) (by decide) rfl (by simp [F10]) (by simp [F10]) ?_
       exact Can.join ((v6, IntKind.wrap .i64 (1 + v12), ([0, 1, 2, 3, 4, 5, 6, 7, 8, 9, 10, 11, 12] : List Int).take (IntKind.wrap .i64 (12 + v24)).toNat, v25)) hF (by simp [F10]) (by simp [F10]) (by simp)
      ·replace hF := ite_f h14 hF
       have h14_ := eqb_f h14
       have h14__ := neb_t h14
       have F11 := And.intro F8 (And.intro h14 (And.intro h14_ h14__))
       refine CF (by simp [F11] <;> omega) ?_
       refine AW.skip ?_
       refine hK45 _ _ _ ?_
       refine Can.freeze 4 (o := .grow (List.map (AV.int .i64) v10)) (by simp [F11]) rfl [] [(3, .cells [Iz v6, Iz (IntKind.wrap .i64 (1 + v12)), Lz v10])] trivial ⟨⟨by simp, AObj.cells [Iz v6, Iz (IntKind.wrap .i64 (1 + v12)), AV.slc 4 0 1 v10.length false], by simp [F11], (.mk (.cons (.same _) (.cons (.same _) (.cons (.l (by simp) (by simp) (by simp) (by simp)) .nil))))⟩, trivial⟩ ?_
       refine Can.ren (m := 1) h0 [(0, 0), (1, 1), (2, 3)] [(2, AV.ptr 1 0), (3, AV.ptr 2 0)] [(0, .cells [Lz v0, Iz v19]), (1, .cells [Iz 0, Iz 0, AV.lst true true (List.map (AV.int .i64) ([] : List Int))]), (2, .cells [Iz v6, Iz (IntKind.wrap .i64 (1 + v12)), Lz v10])] 3 (by decide) (by decide) (by decide) rfl (by simp [F11]) (by simp [F11]) ?_
       exact Can.join ((v6, IntKind.wrap .i64 (1 + v12), v10, v19)) hF (by simp [F11]) (by simp [F11]) (by simp)
 ·rintro ⟨v14, v15, v16, v17⟩ hF
  try dsimp only at hF
  unfold law34_guard.J1 at hF
  refine SQ [] [none, none] fun _ _ g r => ?_
  try simp [h4, h4_]
  and_intros <;> first | exact g _ (by kernel_rfl) | refine r _ _ _ ?_ | omega | (simp [h4, h4_, maxLen] <;> omega)
  refine WK [(2, AV.ptr 1 0)] [(0, .cells [Lz v0, Iz v17]), (1, .cells [Iz v14, Iz v15, Lz v16])] 3 (by simp [h4, h4_]) (by simp [h4, h4_]) ?_
  simp only [Option.some.injEq, Prod.mk.injEq] at hF
  obtain ⟨e0, e1, e2, e3⟩ := hF
  subst e0 e1 e2 e3
  refine AW.ret (hQ _ _ _ ?_ (matchO_0 ?_)).1
  ·simp [Try.f23, h4, h4_]
  ·simp [h4, h4_]
theorem w_mill_Mod (k : Nat) (v0 : Int) (v1 : Int) (v2 : Int) (hF : mill_Mod k v0 v1 = some v2) :
  FCall Try.prog 25 [AV.int .i64 v0, AV.int .i64 v1] [] (AV.int .i64 v2) [] := by
 unfold mill_Mod at hF
 refine EN Try.func25 ?_
 intro c0 w0 Q h0 hQ
 refine WK [(0, Iz v0), (1, Iz v1)] [] 0 (by simp) (by simp) ?_
 refine SQ [] [none] fun _ _ g r => ?_
 try simp
 and_intros <;> first | exact g _ (by kernel_rfl) | refine r _ _ _ ?_ | omega | (simp [maxLen] <;> omega)
 refine WK [(0, Iz v0), (1, Iz v1)] [] 0 (by simp) (by simp) ?_
 refine SQ [] [none, none, none, none] fun _ _ g r => ?_
 try simp
 and_intros
 try any_goals first | omega | (simp [maxLen] <;> omega)
 obtain ⟨v3, h1, hF⟩ := bnd1_elim hF
 refine AC (w_made_Mod k _ _ _ h1) (.cons (.same (by simp)) (.cons (.same (by simp)) .nil)) ?_
 try simp
 and_intros <;> first | exact g _ (by kernel_rfl) | refine r _ _ _ ?_ | omega | (simp [maxLen] <;> omega)
 refine WK [(4, Iz v3)] [] 0 (by simp) (by simp) ?_
 simp only [Option.some.injEq] at hF
 subst hF
 refine AW.ret (hQ _ _ _ ?_ (matchO_0 ?_)).1
 ·simp [Try.f25]
 ·simp
abbrev c_ref03_Copy (v0 : Int) (v1 : Int) (v2 : ByteArray) (v3 : Int) (v4 : Int) (v5 : Int) (v6 : Int) (v7 : Int) (v8 : (List Int)) (v9 : (List api_Pin)) (v10 : ByteArray) (v11 : Int) (v12 : ByteArray) : AObj := .cells [Iz v0, Iz v1, AV.str v2, Iz v3, Iz v4, Iz v5, Iz v6, Iz v7, Lz v8, AV.lst false false (List.map api_Pin.av v9), AV.str v10, Iz v11, AV.str v12]
abbrev c_ref03_Copy1  : AObj := .cells [Iz 0, Iz 0, AV.str (ByteArray.mk #[]), Iz 0, Iz 0, Iz 0, Iz 0, Iz 0, AV.lst true true (List.map (AV.int .i64) ([] : List Int)), AV.lst true true (List.map api_Pin.av ([] : List api_Pin)), AV.str (ByteArray.mk #[]), Iz 0, AV.str (ByteArray.mk #[])]
theorem w_ref03_Copy (k : Nat) (v0 : Int) (v1 : Int) (v2 : ByteArray) (v3 : Int) (v4 : Int) (v5 : Int) (v6 : Int) (v7 : Int) (v8 : (List Int)) (v9 : (List api_Pin)) (v10 : ByteArray) (v11 : Int) (v12 : ByteArray) (v13 : api_Statement) (hF : ref03_Copy k v0 v1 v2 v3 v4 v5 v6 v7 v8 v9 v10 v11 v12 = some v13) :
  FCall Try.prog 102 [AV.agg [AV.int .i64 v0, AV.int .i64 v1, AV.str v2, AV.int .i64 v3, AV.int .i64 v4, AV.int .i64 v5, AV.int .i64 v6, AV.int .i64 v7, AV.lst false false (List.map (AV.int .i64) v8), AV.lst false false (List.map api_Pin.av v9), AV.str v10, AV.int .i64 v11, AV.str v12]] [] (AV.agg [AV.int .i64 v13.Author, AV.int .i64 v13.Number, AV.str v13.Prev, AV.int .i64 v13.Time, AV.int .i64 v13.Kind, AV.int .i64 v13.A, AV.int .i64 v13.B, AV.int .i64 v13.C, AV.lst false false (List.map (AV.int .i64) v13.Lst), AV.lst false false (List.map api_Pin.av v13.Pins), AV.str v13.Body, AV.int .i64 v13.Seal_Key, AV.str v13.Seal_Digest]) [] := by
 unfold ref03_Copy at hF
 refine EN Try.func102 ?_
 intro c0 w0 Q h0 hQ
 refine WK [(0, AV.agg [Iz v0, Iz v1, AV.str v2, Iz v3, Iz v4, Iz v5, Iz v6, Iz v7, Lz v8, AV.lst false false (List.map api_Pin.av v9), AV.str v10, Iz v11, AV.str v12])] [] 0 (by simp) (by simp) ?_
 refine SQ [] [none, none] fun _ _ g r => ?_
 try simp
 and_intros <;> first | exact g _ (by kernel_rfl) | refine r _ _ _ ?_ | omega | (simp [maxLen] <;> omega)
 refine WK [(1, AV.ptr 0 0), (2, AV.ptr 1 0)] [(0, c_ref03_Copy v0 v1 v2 v3 v4 v5 v6 v7 v8 v9 v10 v11 v12), (1, c_ref03_Copy1 )] 2 (by simp) (by simp) ?_
 refine SQ [5] [none, none, none, none, none] fun _ _ g r => ?_
 obtain ⟨h1, hF⟩ := chk_elim hF
 have h1_ := h1
 try simp at h1_
 try simp [h1]
 and_intros <;> first | exact g _ (by kernel_rfl) | refine r _ _ _ ?_ | omega | (simp [h1, maxLen] <;> omega)
 refine WK [(1, AV.ptr 0 0), (2, AV.ptr 1 0)] [(0, .cells [Iz v0, Iz v1, AV.str v2, Iz v3, Iz v4, Iz v5, Iz v6, Iz v7, AV.slc 2 0 1 v8.length false, AV.lst false false (List.map api_Pin.av v9), AV.str v10, Iz v11, AV.str v12]), (1, c_ref03_Copy1 ), (2, .grow (List.map (AV.int .i64) v8))] 3 (by simp [h1]) (by simp [h1]) ?_
 refine AW.frz 2 (o := .grow (List.map (AV.int .i64) v8)) (by simp [h1]) rfl [] [(0, c_ref03_Copy v0 v1 v2 v3 v4 v5 v6 v7 v8 v9 v10 v11 v12)] trivial ⟨⟨by simp, AObj.cells [Iz v0, Iz v1, AV.str v2, Iz v3, Iz v4, Iz v5, Iz v6, Iz v7, AV.slc 2 0 1 v8.length false, AV.lst false false (List.map api_Pin.av v9), AV.str v10, Iz v11, AV.str v12], by simp [h1], (.mk (.cons (.same _) (.cons (.same _) (.cons (.same _) (.cons (.same _) (.cons (.same _) (.cons (.same _) (.cons (.same _) (.cons (.same _) (.cons (.l (by simp) (by simp) (by simp) (by simp)) (.cons (.same _) (.cons (.same _) (.cons (.same _) (.cons (.same _) .nil))))))))))))))⟩, trivial⟩ ?_
 refine WK [(1, AV.ptr 0 0), (2, AV.ptr 1 0)] [(0, c_ref03_Copy v0 v1 v2 v3 v4 v5 v6 v7 v8 v9 v10 v11 v12), (1, c_ref03_Copy1 )] 3 (by simp [h1]) (by simp [h1]) ?_
 refine SQ [9] [none, none, none, none, none] fun _ _ g r => ?_
 obtain ⟨h2, hF⟩ := chk_elim hF
 have h2_ := h2
 try simp at h2_
 try simp [h1, h2]
 and_intros <;> first | exact g _ (by kernel_rfl) | refine r _ _ _ ?_ | omega | (simp [h1, h2, maxLen] <;> omega)
 refine WK [(1, AV.ptr 0 0), (2, AV.ptr 1 0)] [(0, .cells [Iz v0, Iz v1, AV.str v2, Iz v3, Iz v4, Iz v5, Iz v6, Iz v7, Lz v8, AV.slc 3 0 3 v9.length false, AV.str v10, Iz v11, AV.str v12]), (1, c_ref03_Copy1 ), (3, .grow (flatA (List.map api_Pin.av v9)))] 4 (by simp [h1, h2]) (by simp [h1, h2]) ?_
 refine AW.frz 3 (o := .grow (flatA (List.map api_Pin.av v9))) (by simp [h1, h2]) rfl [] [(0, c_ref03_Copy v0 v1 v2 v3 v4 v5 v6 v7 v8 v9 v10 v11 v12)] trivial ⟨⟨by simp, AObj.cells [Iz v0, Iz v1, AV.str v2, Iz v3, Iz v4, Iz v5, Iz v6, Iz v7, Lz v8, AV.slc 3 0 3 v9.length false, AV.str v10, Iz v11, AV.str v12], by simp [h1, h2], (.mk (.cons (.same _) (.cons (.same _) (.cons (.same _) (.cons (.same _) (.cons (.same _) (.cons (.same _) (.cons (.same _) (.cons (.same _) (.cons (.same _) (.cons (.l (by simp) (by simp) (by simp) (by simp)) (.cons (.same _) (.cons (.same _) (.cons (.same _) .nil))))))))))))))⟩, trivial⟩ ?_
 refine WK [(1, AV.ptr 0 0), (2, AV.ptr 1 0)] [(0, c_ref03_Copy v0 v1 v2 v3 v4 v5 v6 v7 v8 v9 v10 v11 v12), (1, c_ref03_Copy1 )] 4 (by simp [h1, h2]) (by simp [h1, h2]) ?_
 refine SQ [] [none, none] fun _ _ g r => ?_
 try simp [h1, h2]
 and_intros <;> first | exact g _ (by kernel_rfl) | refine r _ _ _ ?_ | omega | (simp [h1, h2, maxLen] <;> omega)
 refine RM h0 [(0, 1)] [(2, AV.ptr 0 0)] [(0, c_ref03_Copy v0 v1 v2 v3 v4 v5 v6 v7 v8 v9 v10 v11 v12)] 1 (by simp [h1, h2]) (by simp [h1, h2]) ?_
 simp only [Option.some.injEq] at hF
 subst hF
 refine AW.ret (hQ _ _ _ ?_ (matchO_0 ?_)).1
 ·simp [Try.f102, h1, h2]
 ·simp [h1, h2]
theorem w_ref02_Int (k : Nat) (v0 : (List Int)) (v1 : Int) (v2 : (List Int)) (hF : ref02_Int k v0 v1 = some v2) :
  FCall Try.prog 127 [AV.lst false false (List.map (AV.int .u8) v0), AV.int .i64 v1] [] (AV.slc 0 0 1 v2.length false) [some (.grow (List.map (AV.int .u8) v2))] := by
 unfold ref02_Int at hF
 refine EN Try.func127 ?_
 intro c0 w0 Q h0 hQ
 refine WK [(0, Lb v0), (1, Iz v1)] [] 0 (by simp) (by simp) ?_
 refine SQ [] [none] fun _ _ g r => ?_
 try simp
 and_intros <;> first | exact g _ (by kernel_rfl) | refine r _ _ _ ?_ | omega | (simp [maxLen] <;> omega)
 refine WK [(0, Lb v0), (1, Iz v1)] [] 0 (by simp) (by simp) ?_
 refine SQ [8] [none, none, none] fun _ _ g r => ?_
 obtain ⟨h1, hF⟩ := chk_elim hF
 have h1_ := h1
 try simp at h1_
 try simp [h1]
 and_intros <;> first | exact g _ (by kernel_rfl) | refine r _ _ _ ?_ | omega | (simp [h1, maxLen] <;> omega)
 refine WK [(1, Iz v1), (5, AV.slc 0 0 1 v0.length false)] [(0, .grow (List.map (AV.int .u8) v0))] 1 (by simp [h1]) (by simp [h1]) ?_
 refine AW.seq fun K97 hK97 => ?_
 refine SQ [] [none] fun _ _ g r => ?_
 try simp [h1]
 and_intros <;> first | exact g _ (by kernel_rfl) | refine r _ _ _ ?_ | omega | (simp [h1, maxLen] <;> omega)
 refine WK [(1, Iz v1), (5, AV.slc 0 0 1 v0.length false), (6, Iz 7)] [(0, .grow (List.map (AV.int .u8) v0))] 1 (by simp [h1]) (by simp [h1]) ?_
 refine AW.block ?_
 refine AW.loopF (α := (Int × (List Int))) (fun n (v3, v4) => ref02_Int.L1 k v1 n v3 v4 = some v2) (fun (v3, v4) => [(1, Iz v1), (5, AV.slc 0 0 1 v4.length false), (6, Iz v3)]) (fun (v3, v4) => [(0, .grow (List.map (AV.int .u8) v4))]) 1 k ((7, v0)) hF (by simp [h1]) (by simp [h1]) (by simp) ?_
 rintro (_|n1) ⟨v3, v4⟩ hF K120 hK120
 ·try dsimp only at hF
  rw [ref02_Int.L1] at hF; cases hF
 try dsimp only at hF
 rw [ref02_Int.L1] at hF
 refine AW.seq fun K122 hK122 => ?_
 refine SQ [] [none, none] fun _ _ g r => ?_
 try simp [h1]
 and_intros <;> first | exact g _ (by kernel_rfl) | refine r _ _ _ ?_ | omega | (simp [h1, maxLen] <;> omega)
 refine WK [(1, Iz v1), (5, AV.slc 0 0 1 v4.length false), (6, Iz v3), (10, AV.bool (decide (0 ≤ v3)))] [(0, .grow (List.map (AV.int .u8) v4))] 1 (by simp [h1]) (by simp [h1]) ?_
 by_cases h2 : 0 ≤ v3
 ·replace hF := ite_t h2 hF
  have h2_ := h2
  try simp at h2_
  have F1 := And.intro h1 (And.intro h2 h2_)
  refine CT (by simp [F1] <;> omega) ?_
  refine AW.skip ?_
  refine hK122 _ _ _ ?_
  refine AW.seq fun K125 hK125 => ?_
  refine AW.block ?_
  refine RG [] [none, none, none, none, none, none, none, none, none, none] fun _ _ g r => ?_
  obtain ⟨h3, hF⟩ := chk_elim hF
  obtain ⟨h4, hF⟩ := chk_elim hF
  have h4_ := h4
  try simp at h4_
  have F2 := And.intro F1 (And.intro h3 h4)
  try simp [F2]
  and_intros <;> first | exact g _ (by kernel_rfl) | refine r _ _ _ ?_ | omega | (simp [maxLen, F2] <;> omega)
  refine hK125 _ _ _ ?_
  refine WK [(1, Iz v1), (5, AV.slc 1 0 1 ((v4 ++ ([IntKind.wrap .u8 (Int.fdiv v1 (2 ^ (min ((IntKind.wrap .u64 (IntKind.wrap .i64 (8 * v3))).toNat) 64)))] : List Int)).length) false), (6, Iz v3)] [(1, .grow (List.map (AV.int .u8) (v4 ++ ([IntKind.wrap .u8 (Int.fdiv v1 (2 ^ (min ((IntKind.wrap .u64 (IntKind.wrap .i64 (8 * v3))).toNat) 64)))] : List Int))))] 2 (by simp [F2] <;> omega) (by simp [F2]) ?_
  refine RG [] [none, none, none] fun _ _ g r => ?_
  try simp [F2]
  and_intros <;> first | exact g _ (by kernel_rfl) | refine r _ _ _ ?_ | omega | (simp [maxLen, F2] <;> omega)
  refine hK120 _ _ _ ?_
  refine RN h0 [(0, 1)] [(1, Iz v1), (5, AV.slc 0 0 1 ((v4 ++ ([IntKind.wrap .u8 (Int.fdiv v1 (2 ^ (min ((IntKind.wrap .u64 (IntKind.wrap .i64 (8 * v3))).toNat) 64)))] : List Int)).length) false), (6, Iz (IntKind.wrap .i64 (v3 - 1)))] [(0, .grow (List.map (AV.int .u8) (v4 ++ ([IntKind.wrap .u8 (Int.fdiv v1 (2 ^ (min ((IntKind.wrap .u64 (IntKind.wrap .i64 (8 * v3))).toNat) 64)))] : List Int))))] 1 (by simp [F2] <;> omega) (by simp [F2]) ?_
  exact Can.next (k' := n1) ((IntKind.wrap .i64 (v3 - 1), v4 ++ ([IntKind.wrap .u8 (Int.fdiv v1 (2 ^ (min ((IntKind.wrap .u64 (IntKind.wrap .i64 (8 * v3))).toNat) 64)))] : List Int))) (by omega) hF (by simp [F2]) (by simp [F2]) (by simp)
 ·replace hF := ite_f h2 hF
  have h2_ := h2
  try simp at h2_
  have F3 := And.intro h1 (And.intro h2 h2_)
  refine CF (by simp [F3] <;> omega) ?_
  refine AW.exit ?_
  try simp
  refine hK97 _ _ _ ?_
  refine SQ [] [none, none] fun _ _ g r => ?_
  try simp [F3]
  and_intros <;> first | exact g _ (by kernel_rfl) | refine r _ _ _ ?_ | omega | (simp [maxLen, F3] <;> omega)
  refine WK [(4, AV.slc 0 0 1 v4.length false)] [(0, .grow (List.map (AV.int .u8) v4))] 1 (by simp [F3]) (by simp [F3]) ?_
  simp only [Option.some.injEq] at hF
  subst hF
  refine AW.ret (hQ _ _ _ ?_ (matchO_0 ?_)).1
  ·simp [Try.f127, F3]
  ·simp [F3]
theorem w_ref02_Text (k : Nat) (v0 : (List Int)) (v1 : ByteArray) (v2 : (List Int)) (hF : ref02_Text k v0 v1 = some v2) :
  FCall Try.prog 126 [AV.lst false false (List.map (AV.int .u8) v0), AV.str v1] [] (AV.slc 0 0 1 v2.length false) [some (.grow (List.map (AV.int .u8) v2))] := by
 unfold ref02_Text at hF
 refine EN Try.func126 ?_
 intro c0 w0 Q h0 hQ
 refine WK [(0, Lb v0), (1, AV.str v1)] [] 0 (by simp) (by simp) ?_
 refine SQ [] [none] fun _ _ g r => ?_
 try simp
 and_intros <;> first | exact g _ (by kernel_rfl) | refine r _ _ _ ?_ | omega | (simp [maxLen] <;> omega)
 refine WK [(0, Lb v0), (1, AV.str v1)] [] 0 (by simp) (by simp) ?_
 refine SQ [] [none, none, none, none, none, none, none] fun _ _ g r => ?_
 try simp
 and_intros
 try any_goals first | omega | (simp [maxLen] <;> omega)
 obtain ⟨v3, h1, hF⟩ := bnd1_elim hF
 refine AC (w_ref02_Int k _ _ _ h1) (.cons (.same (by simp)) (.cons (.same (by simp)) .nil)) ?_
 obtain ⟨h2, hF⟩ := chk_elim hF
 have h2_ := h2
 try simp at h2_
 try simp [h2]
 and_intros <;> first | exact g _ (by kernel_rfl) | refine r _ _ _ ?_ | omega | (simp [h2, maxLen] <;> omega)
 refine RM h0 [(0, 1)] [(4, AV.slc 0 0 1 ((v3 ++ (bI v1)).length) false)] [(0, .grow (List.map (AV.int .u8) (v3 ++ (bI v1))))] 1 (by simp [h2] <;> omega) (by simp [h2]) ?_
 simp only [Option.some.injEq] at hF
 subst hF
 refine AW.ret (hQ _ _ _ ?_ (matchO_0 ?_)).1
 ·simp [Try.f126, h2]
 ·simp [h2]
end Go.TF
