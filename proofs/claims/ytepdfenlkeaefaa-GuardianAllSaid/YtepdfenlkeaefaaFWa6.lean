/- Walks: the Go text computes the Lean functions (printed by a program of our own). -/
import Derived.Test.YtepdfenlkeaefaaFPu
import Derived.Test.YtepdfenlkeaefaaFAbsT
import Derived.Test.YtepdfenlkeaefaaFWa0
import Derived.Test.YtepdfenlkeaefaaFWa1
import Derived.Test.YtepdfenlkeaefaaFWa2
import Derived.Test.YtepdfenlkeaefaaFWa4
import Derived.Test.YtepdfenlkeaefaaFWa5
set_option linter.unusedVariables false
set_option linter.unusedSimpArgs false
set_option maxRecDepth 100000
set_option maxHeartbeats 4000000
namespace Go.TF
open Go Go.Abs Go.Proofs Go.Proofs.YtepdfenlkeaefaaFT
theorem w_ref34_Same (k : Nat) (v0 : (List api_Guard)) (v1 : (List api_Guard)) (v2 : Bool) (hF : ref34_Same k v0 v1 = some v2) :
  FCall Try.prog 28 [AV.lst false false (List.map api_Guard.av v0), AV.lst false false (List.map api_Guard.av v1)] [] (AV.bool v2) [] := by
 unfold ref34_Same at hF
 refine EN Try.func28 ?_
 intro c0 w0 Q h0 hQ
 refine WK [(0, AV.lst false false (List.map api_Guard.av v0)), (1, AV.lst false false (List.map api_Guard.av v1))] [] 0 (by simp) (by simp) ?_
 refine SQ [] [none] fun _ _ g r => ?_
 try simp
 and_intros <;> first | exact g _ (by kernel_rfl) | refine r _ _ _ ?_ | omega | (simp [maxLen] <;> omega)
 refine WK [(0, AV.lst false false (List.map api_Guard.av v0)), (1, AV.lst false false (List.map api_Guard.av v1))] [] 0 (by simp) (by simp) ?_
 refine AW.seq fun K120 hK120 => ?_
 refine SQ [] [none, none, none, none, none] fun _ _ g r => ?_
 try simp
 and_intros <;> first | exact g _ (by kernel_rfl) | refine r _ _ _ ?_ | omega | (simp [maxLen] <;> omega)
 refine WK [(0, AV.lst false false (List.map api_Guard.av v0)), (1, AV.lst false false (List.map api_Guard.av v1)), (10, AV.bool ((v0.length : Int) != (v1.length : Int)))] [] 0 (by simp) (by simp) ?_
 by_cases h1 : (v0.length : Int) ≠ (v1.length : Int)
 ·replace hF := ite_t h1 hF
  have h1_ := eqb_f h1
  have h1__ := neb_t h1
  have F1 := And.intro h1 (And.intro h1_ h1__)
  refine CT (by simp [F1] <;> omega) ?_
  refine SQ [] [none] fun _ _ g r => ?_
  try simp [F1]
  and_intros <;> first | exact g _ (by kernel_rfl) | refine r _ _ _ ?_ | omega | (simp [maxLen, F1] <;> omega)
  refine WK [(4, AV.bool false)] [] 0 (by simp [F1]) (by simp [F1]) ?_
  simp only [Option.some.injEq] at hF
  subst hF
  refine AW.ret (hQ _ _ _ ?_ (matchO_0 ?_)).1
  ·simp [Try.f28, F1]
  ·simp [F1]
 ·replace hF := ite_f h1 hF
  have h1q : (v0.length : Int) = (v1.length : Int) := Classical.not_not.1 h1
  have h1_ := eqb_t h1q
  have h1__ := neb_f h1q
  refine CF (by simp [h1_, h1__] <;> omega) ?_
  refine AW.skip ?_
  refine hK120 _ _ _ ?_
  refine AW.seq fun K177 hK177 => ?_
  refine SQ [] [none] fun _ _ g r => ?_
  try simp [h1_, h1__]
  and_intros <;> first | exact g _ (by kernel_rfl) | refine r _ _ _ ?_ | omega | (simp [h1_, h1__, maxLen] <;> omega)
  refine WK [(0, AV.lst false false (List.map api_Guard.av v0)), (1, AV.lst false false (List.map api_Guard.av v1)), (5, Iz 0)] [] 0 (by simp [h1_, h1__]) (by simp [h1_, h1__]) ?_
  refine AW.block ?_
  refine AW.loopF (α := Int) (fun n v3 => ref34_Same.L1 k v0 v1 n v3 = some v2) (fun v3 => [(0, AV.lst false false (List.map api_Guard.av v0)), (1, AV.lst false false (List.map api_Guard.av v1)), (5, Iz v3)]) (fun v3 => []) 0 k (0) hF (by simp [h1_, h1__]) (by simp [h1_, h1__]) (by simp) ?_
  rintro (_|n1) v3 hF K218 hK218
  ·try dsimp only at hF
   rw [ref34_Same.L1] at hF; cases hF
  try dsimp only at hF
  rw [ref34_Same.L1] at hF
  refine AW.seq fun K220 hK220 => ?_
  refine SQ [] [none, none, none, none] fun _ _ g r => ?_
  try simp [h1_, h1__]
  and_intros <;> first | exact g _ (by kernel_rfl) | refine r _ _ _ ?_ | omega | (simp [h1_, h1__, maxLen] <;> omega)
  refine WK [(0, AV.lst false false (List.map api_Guard.av v0)), (1, AV.lst false false (List.map api_Guard.av v1)), (5, Iz v3), (14, AV.bool (decide (v3 < (v0.length : Int))))] [] 0 (by simp [h1_, h1__]) (by simp [h1_, h1__]) ?_
  by_cases h2 : v3 < (v0.length : Int)
  ·replace hF := ite_t h2 hF
   have h2_ := h2
   try simp at h2_
   have F2 := And.intro h1_ (And.intro h1__ (And.intro h2 h2_))
   refine CT (by simp [F2] <;> omega) ?_
   refine AW.skip ?_
   refine hK220 _ _ _ ?_
   refine AW.seq fun K226 hK226 => ?_
   refine AW.block ?_
   refine SQ [] [none, none, none, none, none, none, none, none, none, none, none, none, some (28, false), some (28, false), some (28, false), some (28, false), some (28, false), some (28, false), some (28, false), some (28, false), some (28, false), some (28, false), some (28, false), none, none, some (41, false), some (41, false), some (41, false), some (41, false), some (41, false), some (41, false), some (41, false), some (41, false), some (41, false), some (41, false), some (41, false), some (41, false), none] fun _ _ g r => ?_
   obtain ⟨v4, h3, h4, h5, hF⟩ := idx_elim hF
   have h5_ := get_of h5
   try simp at h5_
   have h4_ := h4
   try simp at h4_
   obtain ⟨v5, h6, h7, h8, hF⟩ := idx_elim hF
   have h8_ := get_of h8
   try simp at h8_
   have h7_ := h7
   try simp at h7_
   by_cases h9 : v4.Owner ≠ v5.Owner
   ·replace hF := ite_t h9 hF
    have h9_ := eqb_f h9
    have h9__ := neb_t h9
    have F3 := And.intro F2 (And.intro h3 (And.intro h4 (And.intro h5 (And.intro h5_ (And.intro h4_ (And.intro h6 (And.intro h7 (And.intro h8 (And.intro h8_ (And.intro h7_ (And.intro h9 (And.intro h9_ h9__))))))))))))
    try simp [F3]
    and_intros <;> first | exact g _ (by kernel_rfl) | refine r _ _ _ ?_ | omega | (simp [maxLen, F3] <;> omega)
    refine WK [(0, AV.lst false false (List.map api_Guard.av v0)), (1, AV.lst false false (List.map api_Guard.av v1)), (5, Iz v3), (54, AV.bool true)] [] 0 (by simp [F3]) (by simp [F3]) ?_
    refine CT (by simp [F3]) ?_
    refine SQ [] [none] fun _ _ g r => ?_
    try simp [F3]
    and_intros <;> first | exact g _ (by kernel_rfl) | refine r _ _ _ ?_ | omega | (simp [maxLen, F3] <;> omega)
    refine WK [(4, AV.bool false)] [] 0 (by simp [F3]) (by simp [F3]) ?_
    simp only [Option.some.injEq] at hF
    subst hF
    refine AW.ret (hQ _ _ _ ?_ (matchO_0 ?_)).1
    ·simp [Try.f28, F3]
    ·simp [F3]
   ·replace hF := ite_f h9 hF
    have h9q : v4.Owner = v5.Owner := Classical.not_not.1 h9
    have h9_ := eqb_t h9q
    have h9__ := neb_f h9q
    by_cases h10 : v4.Need ≠ v5.Need
    ·replace hF := ite_t h10 hF
     have h10_ := eqb_f h10
     have h10__ := neb_t h10
     have F4 := And.intro F2 (And.intro h3 (And.intro h4 (And.intro h5 (And.intro h5_ (And.intro h4_ (And.intro h6 (And.intro h7 (And.intro h8 (And.intro h8_ (And.intro h7_ (And.intro h9_ (And.intro h9__ (And.intro h10 (And.intro h10_ h10__))))))))))))))
     try simp [F4]
     and_intros <;> first | exact g _ (by kernel_rfl) | refine r _ _ _ ?_ | omega | (simp [maxLen, F4] <;> omega)
     refine WK [(0, AV.lst false false (List.map api_Guard.av v0)), (1, AV.lst false false (List.map api_Guard.av v1)), (5, Iz v3), (54, AV.bool true)] [] 0 (by simp [F4]) (by simp [F4]) ?_
     refine CT (by simp [F4]) ?_
     refine SQ [] [none] fun _ _ g r => ?_
     try simp [F4]
     and_intros <;> first | exact g _ (by kernel_rfl) | refine r _ _ _ ?_ | omega | (simp [maxLen, F4] <;> omega)
     refine WK [(4, AV.bool false)] [] 0 (by simp [F4]) (by simp [F4]) ?_
     simp only [Option.some.injEq] at hF
     subst hF
     refine AW.ret (hQ _ _ _ ?_ (matchO_0 ?_)).1
     ·simp [Try.f28, F4]
     ·simp [F4]
    ·replace hF := ite_f h10 hF
     have h10q : v4.Need = v5.Need := Classical.not_not.1 h10
     have h10_ := eqb_t h10q
     have h10__ := neb_f h10q
     have F5 := And.intro F2 (And.intro h3 (And.intro h4 (And.intro h5 (And.intro h5_ (And.intro h4_ (And.intro h6 (And.intro h7 (And.intro h8 (And.intro h8_ (And.intro h7_ (And.intro h9_ (And.intro h9__ (And.intro h10_ h10__)))))))))))))
     try simp [F5]
     and_intros
     try any_goals first | omega | (simp [maxLen, F5] <;> omega)
     obtain ⟨v6, h11, hF⟩ := bnd1_elim hF
     refine AC (w_ref23_SameInts k _ _ _ h11) (.cons (.same (by simp [F5])) (.cons (.same (by simp [F5])) .nil)) ?_
     try simp [F5]
     and_intros <;> first | exact g _ (by kernel_rfl) | refine r _ _ _ ?_ | omega | (simp [maxLen, F5] <;> omega)
     refine WK [(0, AV.lst false false (List.map api_Guard.av v0)), (1, AV.lst false false (List.map api_Guard.av v1)), (5, Iz v3), (54, AV.bool (!v6))] [] 0 (by simp [F5]) (by simp [F5]) ?_
     by_cases h12 : (!v6) = true
     ·replace hF := ite_t h12 hF
      have h12_ := h12
      try simp at h12_
      have F6 := And.intro F5 (And.intro h12 h12_)
      refine CT (by simp [F6] <;> omega) ?_
      refine SQ [] [none] fun _ _ g r => ?_
      try simp [F6]
      and_intros <;> first | exact g _ (by kernel_rfl) | refine r _ _ _ ?_ | omega | (simp [maxLen, F6] <;> omega)
      refine WK [(4, AV.bool false)] [] 0 (by simp [F6]) (by simp [F6]) ?_
      simp only [Option.some.injEq] at hF
      subst hF
      refine AW.ret (hQ _ _ _ ?_ (matchO_0 ?_)).1
      ·simp [Try.f28, F6]
      ·simp [F6]
     ·replace hF := ite_f h12 hF
      have h12_ := h12
      try simp at h12_
      have F7 := And.intro F5 (And.intro h12 h12_)
      refine CF (by simp [F7] <;> omega) ?_
      refine AW.skip ?_
      refine hK226 _ _ _ ?_
      refine RG [] [none, none, none] fun _ _ g r => ?_
      try simp [F7]
      and_intros <;> first | exact g _ (by kernel_rfl) | refine r _ _ _ ?_ | omega | (simp [maxLen, F7] <;> omega)
      refine hK218 _ _ _ ?_
      exact Can.next (k' := n1) (IntKind.wrap .i64 (v3 + 1)) (by omega) hF (by simp [F7]) (by simp [F7]) (by simp)
  ·replace hF := ite_f h2 hF
   have h2_ := h2
   try simp at h2_
   have F8 := And.intro h1_ (And.intro h1__ (And.intro h2 h2_))
   refine CF (by simp [F8] <;> omega) ?_
   refine AW.exit ?_
   try simp
   refine hK177 _ _ _ ?_
   refine SQ [] [none] fun _ _ g r => ?_
   try simp [F8]
   and_intros <;> first | exact g _ (by kernel_rfl) | refine r _ _ _ ?_ | omega | (simp [maxLen, F8] <;> omega)
   refine WK [(4, AV.bool true)] [] 0 (by simp [F8]) (by simp [F8]) ?_
   simp only [Option.some.injEq] at hF
   subst hF
   refine AW.ret (hQ _ _ _ ?_ (matchO_0 ?_)).1
   ·simp [Try.f28, F8]
   ·simp [F8]
theorem w_guardian_All (k : Nat) (v0 : (List api_Statement)) (v1 : (List api_Guard)) (hF : guardian_All k v0 = some v1) :
  FCall Try.prog 29 [AV.lst false false (List.map api_Statement.av v0)] [] (AV.slc 0 0 3 v1.length false) [some (.grow (flatA (List.map api_Guard.av v1)))] := by
 unfold guardian_All at hF
 refine EN Try.func29 ?_
 intro c0 w0 Q h0 hQ
 refine WK [(0, AV.lst false false (List.map api_Statement.av v0))] [] 0 (by simp) (by simp) ?_
 refine SQ [] [none] fun _ _ g r => ?_
 try simp
 and_intros <;> first | exact g _ (by kernel_rfl) | refine r _ _ _ ?_ | omega | (simp [maxLen] <;> omega)
 refine WK [(0, AV.lst false false (List.map api_Statement.av v0))] [] 0 (by simp) (by simp) ?_
 refine SQ [] [none, none] fun _ _ g r => ?_
 try simp
 and_intros <;> first | exact g _ (by kernel_rfl) | refine r _ _ _ ?_ | omega | (simp [maxLen] <;> omega)
 refine WK [(0, AV.lst false false (List.map api_Statement.av v0)), (3, AV.map 0)] [(0, .mp (mpA (AV.int .i64) api_Guard.av ([] : (List (Int × api_Guard)))))] 1 (by simp) (by simp) ?_
 refine AW.seq fun K275 hK275 => ?_
 refine SQ [] [none, none, none] fun _ _ g r => ?_
 try simp
 and_intros <;> first | exact g _ (by kernel_rfl) | refine r _ _ _ ?_ | omega | (simp [maxLen] <;> omega)
 refine WK [(3, AV.map 0), (13, AV.lst false false (List.map api_Statement.av v0)), (14, Iz (v0.length : Int)), (15, Iz 0)] [(0, .mp (mpA (AV.int .i64) api_Guard.av ([] : (List (Int × api_Guard)))))] 1 (by simp) (by simp) ?_
 refine AW.block ?_
 refine AW.loopF (α := (Int × (List (Int × api_Guard)))) (fun n (v2, v3) => guardian_All.L1 k v0 n v2 v3 = some v1) (fun (v2, v3) => [(3, AV.map 0), (13, AV.lst false false (List.map api_Statement.av v0)), (14, Iz (v0.length : Int)), (15, Iz v2)]) (fun (v2, v3) => [(0, .mp (mpA (AV.int .i64) api_Guard.av v3))]) 1 k ((0, ([] : (List (Int × api_Guard))))) hF (by simp) (by simp) (by simp) ?_
 rintro (_|n1) ⟨v2, v3⟩ hF K313 hK313
 ·try dsimp only at hF
  rw [guardian_All.L1] at hF; cases hF
 try dsimp only at hF
 rw [guardian_All.L1] at hF
 refine SQ [] [none] fun _ _ g r => ?_
 try simp
 and_intros <;> first | exact g _ (by kernel_rfl) | refine r _ _ _ ?_ | omega | (simp [maxLen] <;> omega)
 refine WK [(3, AV.map 0), (13, AV.lst false false (List.map api_Statement.av v0)), (14, Iz (v0.length : Int)), (15, Iz v2), (16, AV.bool (decide (v2 < (v0.length : Int))))] [(0, .mp (mpA (AV.int .i64) api_Guard.av v3))] 1 (by simp) (by simp) ?_
 refine AW.seq fun K315 hK315 => ?_
 by_cases h1 : v2 < (v0.length : Int)
 ·replace hF := ite_t h1 hF
  have h1_ := h1
  try simp at h1_
  refine CT (by simp [h1, h1_] <;> omega) ?_
  refine AW.skip ?_
  refine hK315 _ _ _ ?_
  refine AW.midF (α := (List (Int × api_Guard))) (fun v4 => guardian_All.J2 k v2 (fun v2_ v3_ => guardian_All.L1 k v0 n1 v2_ v3_) v4 = some v1) (fun v4 => [(3, AV.map 0), (13, AV.lst false false (List.map api_Statement.av v0)), (14, Iz (v0.length : Int)), (15, Iz v2)]) (fun v4 => [(0, .mp (mpA (AV.int .i64) api_Guard.av v4))]) 1 (fun K321 hK321 => ?_) ?_
  ·refine AW.block ?_
   refine SQ [] [none, none, none, none] fun _ _ g r => ?_
   obtain ⟨v5, h2, h3, h4, hF⟩ := idx_elim hF
   have h4_ := get_of h4
   try simp at h4_
   have h3_ := h3
   try simp at h3_
   have F1 := And.intro h1 (And.intro h1_ (And.intro h2 (And.intro h3 (And.intro h4 (And.intro h4_ h3_)))))
   try simp [F1]
   and_intros <;> first | exact g _ (by kernel_rfl) | refine r _ _ _ ?_ | omega | (simp [maxLen, F1] <;> omega)
   refine WK [(3, AV.map 0), (5, AV.ptr 1 0), (13, AV.lst false false (List.map api_Statement.av v0)), (14, Iz (v0.length : Int)), (15, Iz v2)] [(0, .mp (mpA (AV.int .i64) api_Guard.av v3)), (1, .cells [Iz v5.Author, Iz v5.Number, AV.str v5.Prev, Iz v5.Time, Iz v5.Kind, Iz v5.A, Iz v5.B, Iz v5.C, AV.lst false false (List.map (AV.int .i64) v5.Lst), AV.lst false false (List.map api_Pin.av v5.Pins), AV.str v5.Body, Iz v5.Seal_Key, AV.str v5.Seal_Digest])] 2 (by simp [F1]) (by simp [F1]) ?_
   refine SQ [] [none, none, none, none, none, none, none, none] fun _ _ g r => ?_
   try simp [F1]
   and_intros
   try any_goals first | omega | (simp [maxLen, F1] <;> omega)
   obtain ⟨v6, v7, v8, v9, h5, hF⟩ := bnd4_elim hF
   refine AC (w_guardian_Of k _ _ _ _ _ _ _ _ _ _ _ _ _ _ _ _ _ h5) (.cons (.same (by simp [F1])) .nil) ?_
   try simp [F1]
   and_intros <;> first | exact g _ (by kernel_rfl) | refine r _ _ _ ?_ | omega | (simp [maxLen, F1] <;> omega)
   refine WK [(3, AV.map 0), (6, AV.ptr 2 0), (7, Iz v9), (13, AV.lst false false (List.map api_Statement.av v0)), (14, Iz (v0.length : Int)), (15, Iz v2)] [(0, .mp (mpA (AV.int .i64) api_Guard.av v3)), (2, .cells [Iz v6, Iz v7, Lz v8])] 3 (by simp [F1]) (by simp [F1]) ?_
   refine SQ [] [none, none] fun _ _ g r => ?_
   try simp [F1]
   and_intros <;> first | exact g _ (by kernel_rfl) | refine r _ _ _ ?_ | omega | (simp [maxLen, F1] <;> omega)
   refine WK [(3, AV.map 0), (6, AV.ptr 2 0), (13, AV.lst false false (List.map api_Statement.av v0)), (14, Iz (v0.length : Int)), (15, Iz v2), (25, AV.bool (v9 == 0))] [(0, .mp (mpA (AV.int .i64) api_Guard.av v3)), (2, .cells [Iz v6, Iz v7, Lz v8])] 3 (by simp [F1]) (by simp [F1]) ?_
   by_cases h6 : v9 = 0
   ·replace hF := ite_t h6 hF
    have h6q : v9 = 0 := h6
    have h6_ := eqb_t h6q
    have h6__ := neb_f h6q
    have F2 := And.intro F1 (And.intro h6_ (And.intro h6__ h6q))
    refine CT (by simp [F2] <;> omega) ?_
    refine RG [] [none, none, none, none, none] fun _ _ g r => ?_
    try simp [F2]
    and_intros <;> first | exact g _ (by kernel_rfl) | refine r _ _ _ ?_ | omega | (simp [maxLen, F2] <;> omega)
    refine hK321 _ _ _ ?_
    refine RN h0 [(0, 0)] [(3, AV.map 0), (13, AV.lst false false (List.map api_Statement.av v0)), (14, Iz (v0.length : Int)), (15, Iz v2)] [(0, .mp (mpA (AV.int .i64) api_Guard.av (mput v3 v6 (api_Guard.mk v6 v7 v8))))] 1 (by simp [F2]) (by simp [F2]) ?_
    exact Can.join (mput v3 v6 (api_Guard.mk v6 v7 v8)) hF (by simp [F2]) (by simp [F2]) (by simp)
   ·replace hF := ite_f h6 hF
    have h6_ := eqb_f h6
    have h6__ := neb_t h6
    have F3 := And.intro F1 (And.intro h6 (And.intro h6_ h6__))
    refine CF (by simp [F3] <;> omega) ?_
    refine AW.skip ?_
    refine hK321 _ _ _ ?_
    refine RN h0 [(0, 0)] [(3, AV.map 0), (13, AV.lst false false (List.map api_Statement.av v0)), (14, Iz (v0.length : Int)), (15, Iz v2)] [(0, .mp (mpA (AV.int .i64) api_Guard.av v3))] 1 (by simp [F3]) (by simp [F3]) ?_
    exact Can.join (v3) hF (by simp [F3]) (by simp [F3]) (by simp)
  ·rintro v4 hF
   try dsimp only at hF
   unfold guardian_All.J2 at hF
   refine RG [] [none, none] fun _ _ g r => ?_
   try simp [h1, h1_]
   and_intros <;> first | exact g _ (by kernel_rfl) | refine r _ _ _ ?_ | omega | (simp [h1, h1_, maxLen] <;> omega)
   refine hK313 _ _ _ ?_
   exact Can.next (k' := n1) ((IntKind.wrap .i64 (v2 + 1), v4)) (by omega) hF (by simp [h1, h1_]) (by simp [h1, h1_]) (by simp)
 ·replace hF := ite_f h1 hF
  have h1_ := h1
  try simp at h1_
  refine CF (by simp [h1, h1_] <;> omega) ?_
  refine AW.exit ?_
  try simp
  refine hK275 _ _ _ ?_
  refine SQ [] [none] fun _ _ g r => ?_
  try simp [h1, h1_]
  and_intros <;> first | exact g _ (by kernel_rfl) | refine r _ _ _ ?_ | omega | (simp [h1, h1_, maxLen] <;> omega)
  refine WK [(3, AV.map 0), (8, AV.lst true true (List.map api_Guard.av ([] : List api_Guard)))] [(0, .mp (mpA (AV.int .i64) api_Guard.av v3))] 1 (by simp [h1, h1_]) (by simp [h1, h1_]) ?_
  refine AW.seq fun K385 hK385 => ?_
  refine SQ [] [none] fun _ _ g r => ?_
  try simp [h1, h1_]
  and_intros <;> first | exact g _ (by kernel_rfl) | refine r _ _ _ ?_ | omega | (simp [h1, h1_, maxLen] <;> omega)
  refine WK [(3, AV.map 0), (8, AV.lst true true (List.map api_Guard.av ([] : List api_Guard))), (31, Iz 0)] [(0, .mp (mpA (AV.int .i64) api_Guard.av v3))] 1 (by simp [h1, h1_]) (by simp [h1, h1_]) ?_
  refine AW.block ?_
  refine AW.own' 8 3 true (by simp [h1, h1_]) (by decide) ?_
  refine AW.loopF (α := (Int × (List api_Guard))) (fun n (v10, v11) => guardian_All.L3 k v3 n v10 v11 = some v1) (fun (v10, v11) => [(3, AV.map 0), (8, AV.slc 1 0 3 v11.length false), (31, Iz v10)]) (fun (v10, v11) => [(0, .mp (mpA (AV.int .i64) api_Guard.av v3)), (1, .grow (flatA (List.map api_Guard.av v11)))]) 2 k ((0, ([] : List api_Guard))) hF (by simp [h1, h1_]) (by simp [h1, h1_]) (by simp) ?_
  rintro (_|n3) ⟨v10, v11⟩ hF K429 hK429
  ·try dsimp only at hF
   rw [guardian_All.L3] at hF; cases hF
  try dsimp only at hF
  rw [guardian_All.L3] at hF
  refine SQ [] [none] fun _ _ g r => ?_
  try simp [h1, h1_]
  and_intros <;> first | exact g _ (by kernel_rfl) | refine r _ _ _ ?_ | omega | (simp [h1, h1_, maxLen] <;> omega)
  refine WK [(3, AV.map 0), (8, AV.slc 1 0 3 v11.length false), (31, Iz v10), (32, AV.bool (decide (v10 < 64)))] [(0, .mp (mpA (AV.int .i64) api_Guard.av v3)), (1, .grow (flatA (List.map api_Guard.av v11)))] 2 (by simp [h1, h1_]) (by simp [h1, h1_]) ?_
  refine AW.seq fun K431 hK431 => ?_
  by_cases h7 : v10 < 64
  ·replace hF := ite_t h7 hF
   have h7_ := h7
   try simp at h7_
   have F4 := And.intro h1 (And.intro h1_ (And.intro h7 h7_))
   refine CT (by simp [F4] <;> omega) ?_
   refine AW.skip ?_
   refine hK431 _ _ _ ?_
   refine AW.midF (α := (List api_Guard)) (fun v12 => guardian_All.J4 k v10 (fun v10_ v11_ => guardian_All.L3 k v3 n3 v10_ v11_) v12 = some v1) (fun v12 => [(3, AV.map 0), (8, AV.slc 1 0 3 v12.length false), (31, Iz v10)]) (fun v12 => [(0, .mp (mpA (AV.int .i64) api_Guard.av v3)), (1, .grow (flatA (List.map api_Guard.av v12)))]) 2 (fun K438 hK438 => ?_) ?_
   ·refine AW.block ?_
    refine SQ [] [none, none] fun _ _ g r => ?_
    try simp [F4]
    and_intros <;> first | exact g _ (by kernel_rfl) | refine r _ _ _ ?_ | omega | (simp [maxLen, F4] <;> omega)
    refine WK [(3, AV.map 0), (8, AV.slc 1 0 3 v11.length false), (9, Iz v10), (31, Iz v10)] [(0, .mp (mpA (AV.int .i64) api_Guard.av v3)), (1, .grow (flatA (List.map api_Guard.av v11)))] 2 (by simp [F4]) (by simp [F4]) ?_
    refine AW.midF (α := (Int × Int × (List Int) × Bool)) (fun (v13, v14, v15, v16) => guardian_All.J5 k v10 v11 (fun v10_ v11_ => guardian_All.L3 k v3 n3 v10_ v11_) v13 v14 v15 v16 = some v1) (fun (v13, v14, v15, v16) => [(3, AV.map 0), (8, AV.slc 1 0 3 v11.length false), (10, AV.ptr 2 0), (11, AV.bool v16), (31, Iz v10)]) (fun (v13, v14, v15, v16) => [(0, .mp (mpA (AV.int .i64) api_Guard.av v3)), (1, .grow (flatA (List.map api_Guard.av v11))), (2, .cells [Iz v13, Iz v14, Lz v15])]) 3 (fun K443 hK443 => ?_) ?_
    ·refine RG [] [none, none, none, none, none, none, none, none, none] fun _ _ g r => ?_
     rcases opt2_elim hF with ⟨v17, h10, hF⟩ | ⟨h11, hF⟩
     ·try simp [F4, h10]
      and_intros <;> first | exact g _ (by kernel_rfl) | refine r _ _ _ ?_ | omega | (simp [maxLen, F4, h10] <;> omega)
      refine hK443 _ _ _ ?_
      exact Can.join ((v17.Owner, v17.Need, v17.Guardians, true)) hF (by simp [F4, h10]) (by simp [F4, h10]) (by simp)
     ·have F5 := And.intro F4 h11
      try simp [F5]
      and_intros <;> first | exact g _ (by kernel_rfl) | refine r _ _ _ ?_ | omega | (simp [maxLen, F5] <;> omega)
      refine hK443 _ _ _ ?_
      refine Can.weak [(3, AV.map 0), (8, AV.slc 1 0 3 v11.length false), (10, AV.ptr 2 0), (11, AV.bool false), (31, Iz v10)] [(0, .mp (mpA (AV.int .i64) api_Guard.av v3)), (1, .grow (flatA (List.map api_Guard.av v11))), (2, .cells [Iz 0, Iz 0, AV.lst true true (List.map (AV.int .i64) ([] : List Int))])] 3 (by simp [F5]) (by simp [F5]) (by simp) ?_
      refine Can.flg [] [(2, .cells [Iz 0, Iz 0, AV.lst false false (List.map (AV.int .i64) ([] : List Int))])] trivial ⟨⟨AObj.cells [Iz 0, Iz 0, AV.lst true true (List.map (AV.int .i64) ([] : List Int))], by simp [F5], (.mk (.cons (.same _) (.cons (.same _) (.cons (.lst (by simp)) .nil))))⟩, trivial⟩ (by simp) ?_
      exact Can.join ((0, 0, ([] : List Int), false)) hF (by simp [F5]) (by simp [F5]) (by simp)
    ·rintro ⟨v13, v14, v15, v16⟩ hF
     try dsimp only at hF
     unfold guardian_All.J5 at hF
     refine SQ [] [none] fun _ _ g r => ?_
     try simp [F4]
     and_intros <;> first | exact g _ (by kernel_rfl) | refine r _ _ _ ?_ | omega | (simp [maxLen, F4] <;> omega)
     refine WK [(3, AV.map 0), (8, AV.slc 1 0 3 v11.length false), (10, AV.ptr 2 0), (31, Iz v10), (40, AV.bool v16)] [(0, .mp (mpA (AV.int .i64) api_Guard.av v3)), (1, .grow (flatA (List.map api_Guard.av v11))), (2, .cells [Iz v13, Iz v14, Lz v15])] 3 (by simp [F4]) (by simp [F4]) ?_
     by_cases h8 : v16 = true
     ·replace hF := ite_t h8 hF
      have h8_ := h8
      try simp at h8_
      have F6 := And.intro F4 (And.intro h8 h8_)
      refine CT (by simp [F6] <;> omega) ?_
      refine RG [] [none, none, none, none, none] fun _ _ g r => ?_
      obtain ⟨h9, hF⟩ := chk_elim hF
      have h9_ := h9
      try simp at h9_
      have F7 := And.intro F6 h9
      try simp [F7]
      and_intros <;> first | exact g _ (by kernel_rfl) | refine r _ _ _ ?_ | omega | (simp [maxLen, F7] <;> omega)
      refine hK438 _ _ _ ?_
      refine RN h0 [(0, 0), (1, 3)] [(3, AV.map 0), (8, AV.slc 1 0 3 ((v11 ++ ([(api_Guard.mk v13 v14 v15)] : List api_Guard)).length) false), (31, Iz v10)] [(0, .mp (mpA (AV.int .i64) api_Guard.av v3)), (1, .grow (flatA (List.map api_Guard.av (v11 ++ ([(api_Guard.mk v13 v14 v15)] : List api_Guard)))))] 2 (by simp [F7] <;> omega) (by simp [F7]) ?_
      exact Can.join (v11 ++ ([(api_Guard.mk v13 v14 v15)] : List api_Guard)) hF (by simp [F7]) (by simp [F7]) (by simp)
     ·replace hF := ite_f h8 hF
      have h8_ := h8
      try simp at h8_
      have F8 := And.intro F4 (And.intro h8 h8_)
      refine CF (by simp [F8] <;> omega) ?_
      refine AW.skip ?_
      refine hK438 _ _ _ ?_
      refine RN h0 [(0, 0), (1, 1)] [(3, AV.map 0), (8, AV.slc 1 0 3 v11.length false), (31, Iz v10)] [(0, .mp (mpA (AV.int .i64) api_Guard.av v3)), (1, .grow (flatA (List.map api_Guard.av v11)))] 2 (by simp [F8]) (by simp [F8]) ?_
      exact Can.join (v11) hF (by simp [F8]) (by simp [F8]) (by simp)
   ·rintro v12 hF
    try dsimp only at hF
    unfold guardian_All.J4 at hF
    refine RG [] [none, none] fun _ _ g r => ?_
    try simp [F4]
    and_intros <;> first | exact g _ (by kernel_rfl) | refine r _ _ _ ?_ | omega | (simp [maxLen, F4] <;> omega)
    refine hK429 _ _ _ ?_
    exact Can.next (k' := n3) ((IntKind.wrap .i64 (v10 + 1), v12)) (by omega) hF (by simp [F4]) (by simp [F4]) (by simp)
  ·replace hF := ite_f h7 hF
   have h7_ := h7
   try simp at h7_
   have F9 := And.intro h1 (And.intro h1_ (And.intro h7 h7_))
   refine CF (by simp [F9] <;> omega) ?_
   refine AW.exit ?_
   try simp
   refine hK385 _ _ _ ?_
   refine SQ [] [none, none] fun _ _ g r => ?_
   try simp [F9]
   and_intros <;> first | exact g _ (by kernel_rfl) | refine r _ _ _ ?_ | omega | (simp [maxLen, F9] <;> omega)
   refine RM h0 [(0, 1)] [(2, AV.slc 0 0 3 v11.length false)] [(0, .grow (flatA (List.map api_Guard.av v11)))] 1 (by simp [F9]) (by simp [F9]) ?_
   simp only [Option.some.injEq] at hF
   subst hF
   refine AW.ret (hQ _ _ _ ?_ (matchO_0 ?_)).1
   ·simp [Try.f29, F9]
   ·simp [F9]
theorem w_ref34_All (k : Nat) (v0 : (List api_Statement)) (v1 : (List api_Guard)) (hF : ref34_All k v0 = some v1) :
  FCall Try.prog 30 [AV.lst false false (List.map api_Statement.av v0)] [] (AV.slc 0 0 3 v1.length false) [some (.grow (flatA (List.map api_Guard.av v1)))] := by
 unfold ref34_All at hF
 refine EN Try.func30 ?_
 intro c0 w0 Q h0 hQ
 refine WK [(0, AV.lst false false (List.map api_Statement.av v0))] [] 0 (by simp) (by simp) ?_
 refine SQ [] [none] fun _ _ g r => ?_
 try simp
 and_intros <;> first | exact g _ (by kernel_rfl) | refine r _ _ _ ?_ | omega | (simp [maxLen] <;> omega)
 refine WK [(0, AV.lst false false (List.map api_Statement.av v0))] [] 0 (by simp) (by simp) ?_
 refine SQ [] [none] fun _ _ g r => ?_
 try simp
 and_intros <;> first | exact g _ (by kernel_rfl) | refine r _ _ _ ?_ | omega | (simp [maxLen] <;> omega)
 refine WK [(0, AV.lst false false (List.map api_Statement.av v0)), (3, AV.lst true true (List.map api_Guard.av ([] : List api_Guard)))] [] 0 (by simp) (by simp) ?_
 refine AW.seq fun K3553 hK3553 => ?_
 refine SQ [] [none] fun _ _ g r => ?_
 try simp
 and_intros <;> first | exact g _ (by kernel_rfl) | refine r _ _ _ ?_ | omega | (simp [maxLen] <;> omega)
 refine WK [(0, AV.lst false false (List.map api_Statement.av v0)), (3, AV.lst true true (List.map api_Guard.av ([] : List api_Guard))), (4, Iz 0)] [] 0 (by simp) (by simp) ?_
 refine AW.block ?_
 refine AW.own' 3 3 true (by simp) (by decide) ?_
 refine AW.loopF (α := (Int × (List api_Guard))) (fun n (v2, v3) => ref34_All.L1 k v0 n v2 v3 = some v1) (fun (v2, v3) => [(0, AV.lst false false (List.map api_Statement.av v0)), (3, AV.slc 0 0 3 v3.length false), (4, Iz v2)]) (fun (v2, v3) => [(0, .grow (flatA (List.map api_Guard.av v3)))]) 1 k ((0, ([] : List api_Guard))) hF (by simp) (by simp) (by simp) ?_
 rintro (_|n1) ⟨v2, v3⟩ hF K4440 hK4440
 ·try dsimp only at hF
  rw [ref34_All.L1] at hF; cases hF
 try dsimp only at hF
 rw [ref34_All.L1] at hF
 refine AW.seq fun K4442 hK4442 => ?_
 refine SQ [] [none, none] fun _ _ g r => ?_
 try simp
 and_intros <;> first | exact g _ (by kernel_rfl) | refine r _ _ _ ?_ | omega | (simp [maxLen] <;> omega)
 refine WK [(0, AV.lst false false (List.map api_Statement.av v0)), (3, AV.slc 0 0 3 v3.length false), (4, Iz v2), (11, AV.bool (decide (v2 < 64)))] [(0, .grow (flatA (List.map api_Guard.av v3)))] 1 (by simp) (by simp) ?_
 by_cases h1 : v2 < 64
 ·replace hF := ite_t h1 hF
  have h1_ := h1
  try simp at h1_
  refine CT (by simp [h1, h1_] <;> omega) ?_
  refine AW.skip ?_
  refine hK4442 _ _ _ ?_
  refine AW.midF (α := (List api_Guard)) (fun v4 => ref34_All.J2 k v2 (fun v2_ v3_ => ref34_All.L1 k v0 n1 v2_ v3_) v4 = some v1) (fun v4 => [(0, AV.lst false false (List.map api_Statement.av v0)), (3, AV.slc 0 0 3 v4.length false), (4, Iz v2)]) (fun v4 => [(0, .grow (flatA (List.map api_Guard.av v4)))]) 1 (fun K4590 hK4590 => ?_) ?_
  ·refine AW.block ?_
   refine SQ [] [none] fun _ _ g r => ?_
   try simp [h1, h1_]
   and_intros <;> first | exact g _ (by kernel_rfl) | refine r _ _ _ ?_ | omega | (simp [h1, h1_, maxLen] <;> omega)
   refine WK [(0, AV.lst false false (List.map api_Statement.av v0)), (3, AV.slc 0 0 3 v3.length false), (4, Iz v2), (5, AV.ptr 1 0)] [(0, .grow (flatA (List.map api_Guard.av v3))), (1, .cells [Iz 0, Iz 0, AV.lst true true (List.map (AV.int .i64) ([] : List Int))])] 2 (by simp [h1, h1_]) (by simp [h1, h1_]) ?_
   refine SQ [] [none] fun _ _ g r => ?_
   try simp [h1, h1_]
   and_intros <;> first | exact g _ (by kernel_rfl) | refine r _ _ _ ?_ | omega | (simp [h1, h1_, maxLen] <;> omega)
   refine WK [(0, AV.lst false false (List.map api_Statement.av v0)), (3, AV.slc 0 0 3 v3.length false), (4, Iz v2), (5, AV.ptr 1 0), (6, AV.bool false)] [(0, .grow (flatA (List.map api_Guard.av v3))), (1, .cells [Iz 0, Iz 0, AV.lst true true (List.map (AV.int .i64) ([] : List Int))])] 2 (by simp [h1, h1_]) (by simp [h1, h1_]) ?_
   refine AW.seq fun K4663 hK4663 => ?_
   refine SQ [] [none] fun _ _ g r => ?_
   try simp [h1, h1_]
   and_intros <;> first | exact g _ (by kernel_rfl) | refine r _ _ _ ?_ | omega | (simp [h1, h1_, maxLen] <;> omega)
   refine WK [(0, AV.lst false false (List.map api_Statement.av v0)), (3, AV.slc 0 0 3 v3.length false), (4, Iz v2), (5, AV.ptr 1 0), (6, AV.bool false), (7, Iz 0)] [(0, .grow (flatA (List.map api_Guard.av v3))), (1, .cells [Iz 0, Iz 0, AV.lst true true (List.map (AV.int .i64) ([] : List Int))])] 2 (by simp [h1, h1_]) (by simp [h1, h1_]) ?_
   refine AW.block ?_
   refine AW.flg [] [(1, .cells [Iz 0, Iz 0, AV.lst false false (List.map (AV.int .i64) ([] : List Int))])] trivial ⟨⟨AObj.cells [Iz 0, Iz 0, AV.lst true true (List.map (AV.int .i64) ([] : List Int))], by simp [h1, h1_], (.mk (.cons (.same _) (.cons (.same _) (.cons (.lst (by simp)) .nil))))⟩, trivial⟩ (by simp) ?_
   refine AW.loopF (α := (Bool × Int × Int × Int × (List Int))) (fun n (v5, v6, v7, v8, v9) => ref34_All.L3 k v0 v2 v3 (fun v2_ v3_ => ref34_All.L1 k v0 n1 v2_ v3_) n v5 v6 v7 v8 v9 = some v1) (fun (v5, v6, v7, v8, v9) => [(0, AV.lst false false (List.map api_Statement.av v0)), (3, AV.slc 0 0 3 v3.length false), (4, Iz v2), (5, AV.ptr 1 0), (6, AV.bool v5), (7, Iz v6)]) (fun (v5, v6, v7, v8, v9) => [(0, .grow (flatA (List.map api_Guard.av v3))), (1, .cells [Iz v7, Iz v8, Lz v9])]) 2 k ((false, 0, 0, 0, ([] : List Int))) hF (by simp [h1, h1_]) (by simp [h1, h1_]) (by simp) ?_
   rintro (_|n3) ⟨v5, v6, v7, v8, v9⟩ hF K4716 hK4716
   ·try dsimp only at hF
    rw [ref34_All.L3] at hF; cases hF
   try dsimp only at hF
   rw [ref34_All.L3] at hF
   refine AW.seq fun K4718 hK4718 => ?_
   refine SQ [] [none, none, none, none] fun _ _ g r => ?_
   try simp [h1, h1_]
   and_intros <;> first | exact g _ (by kernel_rfl) | refine r _ _ _ ?_ | omega | (simp [h1, h1_, maxLen] <;> omega)
   refine WK [(0, AV.lst false false (List.map api_Statement.av v0)), (3, AV.slc 0 0 3 v3.length false), (4, Iz v2), (5, AV.ptr 1 0), (6, AV.bool v5), (7, Iz v6), (17, AV.bool (decide (v6 < (v0.length : Int))))] [(0, .grow (flatA (List.map api_Guard.av v3))), (1, .cells [Iz v7, Iz v8, Lz v9])] 2 (by simp [h1, h1_]) (by simp [h1, h1_]) ?_
   by_cases h2 : v6 < (v0.length : Int)
   ·replace hF := ite_t h2 hF
    have h2_ := h2
    try simp at h2_
    have F1 := And.intro h1 (And.intro h1_ (And.intro h2 h2_))
    refine CT (by simp [F1] <;> omega) ?_
    refine AW.skip ?_
    refine hK4718 _ _ _ ?_
    refine AW.midF (α := (Int × Int × (List Int) × Bool)) (fun (v10, v11, v12, v13) => ref34_All.J4 k v6 (fun v5_ v6_ v7_ v8_ v9_ => ref34_All.L3 k v0 v2 v3 (fun v2_ v3_ => ref34_All.L1 k v0 n1 v2_ v3_) n3 v5_ v6_ v7_ v8_ v9_) v10 v11 v12 v13 = some v1) (fun (v10, v11, v12, v13) => [(0, AV.lst false false (List.map api_Statement.av v0)), (3, AV.slc 0 0 3 v3.length false), (4, Iz v2), (5, AV.ptr 1 0), (6, AV.bool v13), (7, Iz v6)]) (fun (v10, v11, v12, v13) => [(0, .grow (flatA (List.map api_Guard.av v3))), (1, .cells [Iz v10, Iz v11, Lz v12])]) 2 (fun K4727 hK4727 => ?_) ?_
    ·refine AW.block ?_
     refine AW.seq fun K4729 hK4729 => ?_
     refine SQ [] [none, none, none, none, none, none, none] fun _ _ g r => ?_
     obtain ⟨v14, h3, h4, h5, hF⟩ := idx_elim hF
     have h5_ := get_of h5
     try simp at h5_
     have h4_ := h4
     try simp at h4_
     have F2 := And.intro F1 (And.intro h3 (And.intro h4 (And.intro h5 (And.intro h5_ h4_))))
     try simp [F2]
     and_intros <;> first | exact g _ (by kernel_rfl) | refine r _ _ _ ?_ | omega | (simp [maxLen, F2] <;> omega)
     refine WK [(0, AV.lst false false (List.map api_Statement.av v0)), (3, AV.slc 0 0 3 v3.length false), (4, Iz v2), (5, AV.ptr 1 0), (6, AV.bool v5), (7, Iz v6), (26, AV.bool (v14.Author != v2))] [(0, .grow (flatA (List.map api_Guard.av v3))), (1, .cells [Iz v7, Iz v8, Lz v9])] 2 (by simp [F2]) (by simp [F2]) ?_
     by_cases h6 : v14.Author ≠ v2
     ·replace hF := ite_t h6 hF
      have h6_ := eqb_f h6
      have h6__ := neb_t h6
      have F3 := And.intro F2 (And.intro h6 (And.intro h6_ h6__))
      refine CT (by simp [F3] <;> omega) ?_
      refine AW.exit ?_
      try simp
      refine hK4727 _ _ _ ?_
      exact Can.join ((v7, v8, v9, v5)) hF (by simp [F3]) (by simp [F3]) (by simp)
     ·replace hF := ite_f h6 hF
      have h6q : v14.Author = v2 := Classical.not_not.1 h6
      have h6_ := eqb_t h6q
      have h6__ := neb_f h6q
      have F4 := And.intro F2 (And.intro h6_ h6__)
      refine CF (by simp [F4] <;> omega) ?_
      refine AW.skip ?_
      refine hK4729 _ _ _ ?_
      refine SQ [] [none, none, none, none, none, none, none, none, none, none, none] fun _ _ g r => ?_
      try simp [F4]
      and_intros
      try any_goals first | omega | (simp [maxLen, F4] <;> omega)
      obtain ⟨v15, v16, v17, v18, h7, hF⟩ := bnd4_elim hF
      refine AC (w_ref34_Of k _ _ _ _ _ _ _ _ _ _ _ _ _ _ _ _ _ h7) (.cons (.same (by simp [F4])) .nil) ?_
      try simp [F4]
      and_intros <;> first | exact g _ (by kernel_rfl) | refine r _ _ _ ?_ | omega | (simp [maxLen, F4] <;> omega)
      refine WK [(0, AV.lst false false (List.map api_Statement.av v0)), (3, AV.slc 0 0 3 v3.length false), (4, Iz v2), (5, AV.ptr 1 0), (6, AV.bool v5), (7, Iz v6), (8, AV.ptr 2 0), (9, Iz v18)] [(0, .grow (flatA (List.map api_Guard.av v3))), (1, .cells [Iz v7, Iz v8, Lz v9]), (2, .cells [Iz v15, Iz v16, Lz v17])] 3 (by simp [F4]) (by simp [F4]) ?_
      refine SQ [] [none, none] fun _ _ g r => ?_
      try simp [F4]
      and_intros <;> first | exact g _ (by kernel_rfl) | refine r _ _ _ ?_ | omega | (simp [maxLen, F4] <;> omega)
      refine WK [(0, AV.lst false false (List.map api_Statement.av v0)), (3, AV.slc 0 0 3 v3.length false), (4, Iz v2), (5, AV.ptr 1 0), (6, AV.bool v5), (7, Iz v6), (8, AV.ptr 2 0), (36, AV.bool (v18 == 0))] [(0, .grow (flatA (List.map api_Guard.av v3))), (1, .cells [Iz v7, Iz v8, Lz v9]), (2, .cells [Iz v15, Iz v16, Lz v17])] 3 (by simp [F4]) (by simp [F4]) ?_
      by_cases h8 : v18 = 0
      ·replace hF := ite_t h8 hF
       have h8q : v18 = 0 := h8
       have h8_ := eqb_t h8q
       have h8__ := neb_f h8q
       have F5 := And.intro F4 (And.intro h8_ (And.intro h8__ h8q))
       refine CT (by simp [F5] <;> omega) ?_
       refine RG [] [none, none, none] fun _ _ g r => ?_
       try simp [F5]
       and_intros <;> first | exact g _ (by kernel_rfl) | refine r _ _ _ ?_ | omega | (simp [maxLen, F5] <;> omega)
       refine hK4727 _ _ _ ?_
       refine RN h0 [(0, 0), (1, 1)] [(0, AV.lst false false (List.map api_Statement.av v0)), (3, AV.slc 0 0 3 v3.length false), (4, Iz v2), (5, AV.ptr 1 0), (6, AV.bool true), (7, Iz v6)] [(0, .grow (flatA (List.map api_Guard.av v3))), (1, .cells [Iz v15, Iz v16, Lz v17])] 2 (by simp [F5]) (by simp [F5]) ?_
       exact Can.join ((v15, v16, v17, true)) hF (by simp [F5]) (by simp [F5]) (by simp)
      ·replace hF := ite_f h8 hF
       have h8_ := eqb_f h8
       have h8__ := neb_t h8
       have F6 := And.intro F4 (And.intro h8 (And.intro h8_ h8__))
       refine CF (by simp [F6] <;> omega) ?_
       refine AW.skip ?_
       refine hK4727 _ _ _ ?_
       refine RN h0 [(0, 0), (1, 1)] [(0, AV.lst false false (List.map api_Statement.av v0)), (3, AV.slc 0 0 3 v3.length false), (4, Iz v2), (5, AV.ptr 1 0), (6, AV.bool v5), (7, Iz v6)] [(0, .grow (flatA (List.map api_Guard.av v3))), (1, .cells [Iz v7, Iz v8, Lz v9])] 2 (by simp [F6]) (by simp [F6]) ?_
       exact Can.join ((v7, v8, v9, v5)) hF (by simp [F6]) (by simp [F6]) (by simp)
    ·rintro ⟨v10, v11, v12, v13⟩ hF
     try dsimp only at hF
     unfold ref34_All.J4 at hF
     refine RG [] [none, none, none] fun _ _ g r => ?_
     try simp [F1]
     and_intros <;> first | exact g _ (by kernel_rfl) | refine r _ _ _ ?_ | omega | (simp [maxLen, F1] <;> omega)
     refine hK4716 _ _ _ ?_
     exact Can.next (k' := n3) ((v13, IntKind.wrap .i64 (v6 + 1), v10, v11, v12)) (by omega) hF (by simp [F1]) (by simp [F1]) (by simp)
   ·replace hF := ite_f h2 hF
    have h2_ := h2
    try simp at h2_
    have F7 := And.intro h1 (And.intro h1_ (And.intro h2 h2_))
    refine CF (by simp [F7] <;> omega) ?_
    refine AW.exit ?_
    try simp
    refine hK4663 _ _ _ ?_
    refine SQ [] [none] fun _ _ g r => ?_
    try simp [F7]
    and_intros <;> first | exact g _ (by kernel_rfl) | refine r _ _ _ ?_ | omega | (simp [maxLen, F7] <;> omega)
    refine WK [(0, AV.lst false false (List.map api_Statement.av v0)), (3, AV.slc 0 0 3 v3.length false), (4, Iz v2), (5, AV.ptr 1 0), (38, AV.bool v5)] [(0, .grow (flatA (List.map api_Guard.av v3))), (1, .cells [Iz v7, Iz v8, Lz v9])] 2 (by simp [F7]) (by simp [F7]) ?_
    by_cases h9 : v5 = true
    ·replace hF := ite_t h9 hF
     have h9_ := h9
     try simp at h9_
     have F8 := And.intro F7 (And.intro h9 h9_)
     refine CT (by simp [F8] <;> omega) ?_
     refine RG [] [none, none, none, none, none] fun _ _ g r => ?_
     obtain ⟨h10, hF⟩ := chk_elim hF
     have h10_ := h10
     try simp at h10_
     have F9 := And.intro F8 h10
     try simp [F9]
     and_intros <;> first | exact g _ (by kernel_rfl) | refine r _ _ _ ?_ | omega | (simp [maxLen, F9] <;> omega)
     refine hK4590 _ _ _ ?_
     refine RN h0 [(0, 2)] [(0, AV.lst false false (List.map api_Statement.av v0)), (3, AV.slc 0 0 3 ((v3 ++ ([(api_Guard.mk v7 v8 v9)] : List api_Guard)).length) false), (4, Iz v2)] [(0, .grow (flatA (List.map api_Guard.av (v3 ++ ([(api_Guard.mk v7 v8 v9)] : List api_Guard)))))] 1 (by simp [F9] <;> omega) (by simp [F9]) ?_
     exact Can.join (v3 ++ ([(api_Guard.mk v7 v8 v9)] : List api_Guard)) hF (by simp [F9]) (by simp [F9]) (by simp)
    ·replace hF := ite_f h9 hF
     have h9_ := h9
     try simp at h9_
     have F10 := And.intro F7 (And.intro h9 h9_)
     refine CF (by simp [F10] <;> omega) ?_
     refine AW.skip ?_
     refine hK4590 _ _ _ ?_
     refine RN h0 [(0, 0)] [(0, AV.lst false false (List.map api_Statement.av v0)), (3, AV.slc 0 0 3 v3.length false), (4, Iz v2)] [(0, .grow (flatA (List.map api_Guard.av v3)))] 1 (by simp [F10]) (by simp [F10]) ?_
     exact Can.join (v3) hF (by simp [F10]) (by simp [F10]) (by simp)
  ·rintro v4 hF
   try dsimp only at hF
   unfold ref34_All.J2 at hF
   refine RG [] [none, none, none] fun _ _ g r => ?_
   try simp [h1, h1_]
   and_intros <;> first | exact g _ (by kernel_rfl) | refine r _ _ _ ?_ | omega | (simp [h1, h1_, maxLen] <;> omega)
   refine hK4440 _ _ _ ?_
   exact Can.next (k' := n1) ((IntKind.wrap .i64 (v2 + 1), v4)) (by omega) hF (by simp [h1, h1_]) (by simp [h1, h1_]) (by simp)
 ·replace hF := ite_f h1 hF
  have h1_ := h1
  try simp at h1_
  refine CF (by simp [h1, h1_] <;> omega) ?_
  refine AW.exit ?_
  try simp
  refine hK3553 _ _ _ ?_
  refine SQ [] [none, none] fun _ _ g r => ?_
  try simp [h1, h1_]
  and_intros <;> first | exact g _ (by kernel_rfl) | refine r _ _ _ ?_ | omega | (simp [h1, h1_, maxLen] <;> omega)
  refine WK [(2, AV.slc 0 0 3 v3.length false)] [(0, .grow (flatA (List.map api_Guard.av v3)))] 1 (by simp [h1, h1_]) (by simp [h1, h1_]) ?_
  simp only [Option.some.injEq] at hF
  subst hF
  refine AW.ret (hQ _ _ _ ?_ (matchO_0 ?_)).1
  ·simp [Try.f30, h1, h1_]
  ·simp [h1, h1_]
theorem w_law34_GuardianAll (k : Nat) (v0 : (List Int)) (v1 : (List api_Statement)) (v2 : Bool) (hF : law34_GuardianAll k v0 v1 = some v2) :
  FCall Try.prog 5 [AV.lst false false (List.map (AV.int .i64) v0), AV.lst false false (List.map api_Statement.av v1)] [] (AV.bool v2) [] := by
 unfold law34_GuardianAll at hF
 refine EN Try.func5 ?_
 intro c0 w0 Q h0 hQ
 refine WK [(0, Lz v0), (1, AV.lst false false (List.map api_Statement.av v1))] [] 0 (by simp) (by simp) ?_
 refine SQ [] [none] fun _ _ g r => ?_
 try simp
 and_intros <;> first | exact g _ (by kernel_rfl) | refine r _ _ _ ?_ | omega | (simp [maxLen] <;> omega)
 refine WK [(0, Lz v0), (1, AV.lst false false (List.map api_Statement.av v1))] [] 0 (by simp) (by simp) ?_
 refine AW.seq fun K475 hK475 => ?_
 refine SQ [] [none, none, none, none, some (18, false), some (18, false), some (18, false), none] fun _ _ g r => ?_
 try simp
 and_intros
 try any_goals first | omega | (simp [maxLen] <;> omega)
 obtain ⟨v3, h1, hF⟩ := bnd1_elim hF
 refine AC (w_mill_Light k _ _ h1) (.cons (.same (by simp)) .nil) ?_
 by_cases h2 : (!v3) = true
 ·replace hF := ite_t h2 hF
  have h2_ := h2
  try simp at h2_
  try simp [h2, h2_]
  and_intros <;> first | exact g _ (by kernel_rfl) | refine r _ _ _ ?_ | omega | (simp [h2, h2_, maxLen] <;> omega)
  refine WK [(0, Lz v0), (1, AV.lst false false (List.map api_Statement.av v1)), (22, AV.bool true)] [] 0 (by simp [h2, h2_]) (by simp [h2, h2_]) ?_
  refine CT (by simp [h2, h2_]) ?_
  refine SQ [] [none, none] fun _ _ g r => ?_
  try simp [h2, h2_]
  and_intros
  try any_goals first | omega | (simp [h2, h2_, maxLen] <;> omega)
  obtain ⟨v4, h3, hF⟩ := bnd1_elim hF
  refine AC (w_law34_awake k _ h3) .nil ?_
  try simp [h2, h2_]
  and_intros <;> first | exact g _ (by kernel_rfl) | refine r _ _ _ ?_ | omega | (simp [h2, h2_, maxLen] <;> omega)
  refine WK [(4, AV.bool v4)] [] 0 (by simp [h2, h2_]) (by simp [h2, h2_]) ?_
  simp only [Option.some.injEq] at hF
  subst hF
  refine AW.ret (hQ _ _ _ ?_ (matchO_0 ?_)).1
  ·simp [Try.f5, h2, h2_]
  ·simp [h2, h2_]
 ·replace hF := ite_f h2 hF
  have h2_ := h2
  try simp at h2_
  try simp [h2, h2_]
  and_intros <;> first | exact g _ (by kernel_rfl) | refine r _ _ _ ?_ | omega | (simp [h2, h2_, maxLen] <;> omega)
  refine WK [(0, Lz v0), (1, AV.lst false false (List.map api_Statement.av v1)), (22, AV.bool (decide (10 < (v1.length : Int))))] [] 0 (by simp [h2, h2_]) (by simp [h2, h2_]) ?_
  by_cases h4 : 10 < (v1.length : Int)
  ·replace hF := ite_t h4 hF
   have h4_ := h4
   try simp at h4_
   have F1 := And.intro h2 (And.intro h2_ (And.intro h4 h4_))
   refine CT (by simp [F1] <;> omega) ?_
   refine SQ [] [none, none] fun _ _ g r => ?_
   try simp [F1]
   and_intros
   try any_goals first | omega | (simp [maxLen, F1] <;> omega)
   obtain ⟨v5, h5, hF⟩ := bnd1_elim hF
   refine AC (w_law34_awake k _ h5) .nil ?_
   try simp [F1]
   and_intros <;> first | exact g _ (by kernel_rfl) | refine r _ _ _ ?_ | omega | (simp [maxLen, F1] <;> omega)
   refine WK [(4, AV.bool v5)] [] 0 (by simp [F1]) (by simp [F1]) ?_
   simp only [Option.some.injEq] at hF
   subst hF
   refine AW.ret (hQ _ _ _ ?_ (matchO_0 ?_)).1
   ·simp [Try.f5, F1]
   ·simp [F1]
  ·replace hF := ite_f h4 hF
   have h4_ := h4
   try simp at h4_
   have F2 := And.intro h2 (And.intro h2_ (And.intro h4 h4_))
   refine CF (by simp [F2] <;> omega) ?_
   refine AW.skip ?_
   refine hK475 _ _ _ ?_
   refine SQ [] [none, none, none] fun _ _ g r => ?_
   try simp [F2]
   and_intros
   try any_goals first | omega | (simp [maxLen, F2] <;> omega)
   obtain ⟨v6, v7, h6, hF⟩ := bnd2_elim hF
   refine AC (w_mill_Roll k _ _ _ h6) (.cons (.same (by simp [F2])) .nil) ?_
   try simp [F2]
   and_intros <;> first | exact g _ (by kernel_rfl) | refine r _ _ _ ?_ | omega | (simp [maxLen, F2] <;> omega)
   refine WK [(1, AV.lst false false (List.map api_Statement.av v1)), (5, AV.ptr 0 0)] [(0, .cells [Lz v6, Iz v7])] 1 (by simp [F2]) (by simp [F2]) ?_
   refine SQ [] [none] fun _ _ g r => ?_
   try simp [F2]
   and_intros <;> first | exact g _ (by kernel_rfl) | refine r _ _ _ ?_ | omega | (simp [maxLen, F2] <;> omega)
   refine WK [(1, AV.lst false false (List.map api_Statement.av v1)), (5, AV.ptr 0 0), (6, AV.lst true true (List.map api_Statement.av ([] : List api_Statement)))] [(0, .cells [Lz v6, Iz v7])] 1 (by simp [F2]) (by simp [F2]) ?_
   refine AW.seq fun K647 hK647 => ?_
   refine SQ [] [none, none, none] fun _ _ g r => ?_
   try simp [F2]
   and_intros
   try any_goals first | omega | (simp [maxLen, F2] <;> omega)
   obtain ⟨v8, v9, h7, hF⟩ := bnd2_elim hF
   refine aCall_l (w_made_Dice_Next k _ _ _ _ _ h7) (by simp) [0] [] [0] rfl (.cons (.same (by simp [F2])) (.cons (.same (by simp [F2])) .nil)) (by simp [F2]) (by decide) (by simp) (by simp) (.inl rfl) (by simp) (by simp) ?_
   try simp [F2]
   and_intros <;> first | exact g _ (by kernel_rfl) | refine r _ _ _ ?_ | omega | (simp [maxLen, F2] <;> omega)
   refine WK [(1, AV.lst false false (List.map api_Statement.av v1)), (5, AV.ptr 0 0), (6, AV.lst true true (List.map api_Statement.av ([] : List api_Statement))), (7, Iz v8)] [(0, .cells [Lz v6, Iz v9])] 1 (by simp [F2]) (by simp [F2]) ?_
   refine AW.block ?_
   refine AW.own' 6 13 true (by simp [F2]) (by decide) ?_
   refine AW.loopF (α := (Int × Int × (List api_Statement))) (fun n (v10, v11, v12) => law34_GuardianAll.L1 k v1 v6 n v10 v11 v12 = some v2) (fun (v10, v11, v12) => [(1, AV.lst false false (List.map api_Statement.av v1)), (5, AV.ptr 0 0), (6, AV.slc 1 0 13 v12.length false), (7, Iz v10)]) (fun (v10, v11, v12) => [(0, .cells [Lz v6, Iz v11]), (1, .grow (flatA (List.map api_Statement.av v12)))]) 2 k ((v8, v9, ([] : List api_Statement))) hF (by simp [F2]) (by simp [F2]) (by simp) ?_
   rintro (_|n1) ⟨v10, v11, v12⟩ hF K772 hK772
   ·try dsimp only at hF
    rw [law34_GuardianAll.L1] at hF; cases hF
   try dsimp only at hF
   rw [law34_GuardianAll.L1] at hF
   refine AW.seq fun K774 hK774 => ?_
   refine SQ [] [none, none] fun _ _ g r => ?_
   try simp [F2]
   and_intros <;> first | exact g _ (by kernel_rfl) | refine r _ _ _ ?_ | omega | (simp [maxLen, F2] <;> omega)
   refine WK [(1, AV.lst false false (List.map api_Statement.av v1)), (5, AV.ptr 0 0), (6, AV.slc 1 0 13 v12.length false), (7, Iz v10), (29, AV.bool (decide (0 < v10)))] [(0, .cells [Lz v6, Iz v11]), (1, .grow (flatA (List.map api_Statement.av v12)))] 2 (by simp [F2]) (by simp [F2]) ?_
   by_cases h8 : 0 < v10
   ·replace hF := ite_t h8 hF
    have h8_ := h8
    try simp at h8_
    have F3 := And.intro F2 (And.intro h8 h8_)
    refine CT (by simp [F3] <;> omega) ?_
    refine AW.skip ?_
    refine hK774 _ _ _ ?_
    refine AW.seq fun K794 hK794 => ?_
    refine AW.block ?_
    refine SQ [] [none, none, none, none] fun _ _ g r => ?_
    try simp [F3]
    and_intros
    try any_goals first | omega | (simp [maxLen, F3] <;> omega)
    obtain ⟨v13, v14, v15, v16, h9, hF⟩ := bnd4_elim hF
    refine aCall_l (w_law34_guard k _ _ _ _ _ _ h9) (by simp) [0] [] [0] rfl (.cons (.same (by simp [F3])) .nil) (by simp [F3]) (by decide) (by simp) (by simp) (.inl rfl) (by simp) (by simp) ?_
    try simp [F3]
    and_intros <;> first | exact g _ (by kernel_rfl) | refine r _ _ _ ?_ | omega | (simp [maxLen, F3] <;> omega)
    refine WK [(1, AV.lst false false (List.map api_Statement.av v1)), (5, AV.ptr 0 0), (6, AV.slc 1 0 13 v12.length false), (7, Iz v10), (8, AV.ptr 2 0)] [(0, .cells [Lz v6, Iz v16]), (1, .grow (flatA (List.map api_Statement.av v12))), (2, .cells [Iz v13, Iz v14, Lz v15])] 3 (by simp [F3]) (by simp [F3]) ?_
    refine SQ [] [none, none, none, none, none, none, none, none, none, none, none, none, none, none] fun _ _ g r => ?_
    try simp [F3]
    and_intros
    try any_goals first | omega | (simp [maxLen, F3] <;> omega)
    obtain ⟨v17, h10, hF⟩ := bnd1_elim hF
    refine AC (w_mill_Mod k _ _ _ h10) (.cons (.same (by simp [F3])) (.cons (.same (by simp [F3])) .nil)) ?_
    try simp [F3]
    and_intros
    try any_goals first | omega | (simp [maxLen, F3] <;> omega)
    obtain ⟨v18, v19, h11, hF⟩ := bnd2_elim hF
    refine aCall_l (w_made_Dice_Next k _ _ _ _ _ h11) (by simp) [0] [] [0] rfl (.cons (.same (by simp [F3])) (.cons (.same (by simp [F3])) .nil)) (by simp [F3]) (by decide) (by simp) (by simp) (.inl rfl) (by simp) (by simp) ?_
    obtain ⟨v20, h12, hF⟩ := let1_elim hF
    have h12_ := h12
    try simp at h12_
    have F4 := And.intro F3 (And.intro h12 h12_)
    try simp [F4]
    and_intros
    try any_goals first | omega | (simp [maxLen, F4] <;> omega)
    obtain ⟨v21, h13, hF⟩ := bnd1_elim hF
    refine AC (w_mill_Statement k _ _ _ _ _ _ _ _ _ _ h13) (.cons (.same (by simp [F4])) (.cons (.same (by simp [F4])) (.cons (.same (by simp [F4])) (.cons (.agg (.cons (.same (by simp [F4])) (.cons (.same (by simp [F4])) (.cons (.same (by simp [F4])) (.cons (.same (by simp [F4])) (.cons (.same (by simp [F4])) (.cons (Coe.fl (by simp [F4])) .nil))))))) .nil)))) ?_
    try simp [F4]
    and_intros <;> first | exact g _ (by kernel_rfl) | refine r _ _ _ ?_ | omega | (simp [maxLen, F4] <;> omega)
    refine WK [(1, AV.lst false false (List.map api_Statement.av v1)), (5, AV.ptr 0 0), (6, AV.slc 1 0 13 v12.length false), (7, Iz v10), (9, AV.ptr 3 0)] [(0, .cells [Lz v6, Iz v19]), (1, .grow (flatA (List.map api_Statement.av v12))), (3, .cells [Iz v21.Author, Iz v21.Number, AV.str v21.Prev, Iz v21.Time, Iz v21.Kind, Iz v21.A, Iz v21.B, Iz v21.C, AV.lst false false (List.map (AV.int .i64) v21.Lst), AV.lst false false (List.map api_Pin.av v21.Pins), AV.str v21.Body, Iz v21.Seal_Key, AV.str v21.Seal_Digest])] 4 (by simp [F4]) (by simp [F4]) ?_
    refine AW.midF (α := (Int × Int × Int × Int)) (fun (v22, v23, v24, v25) => law34_GuardianAll.J2 k v10 v12 v21 (fun v10_ v11_ v12_ => law34_GuardianAll.L1 k v1 v6 n1 v10_ v11_ v12_) v22 v23 v24 v25 = some v2) (fun (v22, v23, v24, v25) => [(1, AV.lst false false (List.map api_Statement.av v1)), (5, AV.ptr 0 0), (6, AV.slc 1 0 13 v12.length false), (7, Iz v10), (9, AV.ptr 2 0)]) (fun (v22, v23, v24, v25) => [(0, .cells [Lz v6, Iz v22]), (1, .grow (flatA (List.map api_Statement.av v12))), (2, .cells [Iz v21.Author, Iz v21.Number, AV.str v21.Prev, Iz v21.Time, Iz v23, Iz v21.A, Iz v24, Iz v21.C, AV.lst false false (List.map (AV.int .i64) v21.Lst), AV.lst false false (List.map api_Pin.av v21.Pins), AV.str v21.Body, Iz v25, AV.str v21.Seal_Digest])]) 3 (fun K806 hK806 => ?_) ?_
    ·refine SQ [] [none, none] fun _ _ g r => ?_
     try simp [F4]
     and_intros
     try any_goals first | omega | (simp [maxLen, F4] <;> omega)
     obtain ⟨v26, v27, h15, hF⟩ := bnd2_elim hF
     refine aCall_l (w_made_Dice_Next k _ _ _ _ _ h15) (by simp) [0] [] [0] rfl (.cons (.same (by simp [F4])) (.cons (.same (by simp [F4])) .nil)) (by simp [F4]) (by decide) (by simp) (by simp) (.inl rfl) (by simp) (by simp) ?_
     try simp [F4]
     and_intros <;> first | exact g _ (by kernel_rfl) | refine r _ _ _ ?_ | omega | (simp [maxLen, F4] <;> omega)
     refine WK [(1, AV.lst false false (List.map api_Statement.av v1)), (5, AV.ptr 0 0), (6, AV.slc 1 0 13 v12.length false), (7, Iz v10), (9, AV.ptr 3 0), (47, Iz v26)] [(0, .cells [Lz v6, Iz v27]), (1, .grow (flatA (List.map api_Statement.av v12))), (3, .cells [Iz v21.Author, Iz v21.Number, AV.str v21.Prev, Iz v21.Time, Iz v21.Kind, Iz v21.A, Iz v21.B, Iz v21.C, AV.lst false false (List.map (AV.int .i64) v21.Lst), AV.lst false false (List.map api_Pin.av v21.Pins), AV.str v21.Body, Iz v21.Seal_Key, AV.str v21.Seal_Digest])] 4 (by simp [F4]) (by simp [F4]) ?_
     refine AW.block ?_
     refine SQ [] [none, none] fun _ _ g r => ?_
     try simp [F4]
     and_intros <;> first | exact g _ (by kernel_rfl) | refine r _ _ _ ?_ | omega | (simp [maxLen, F4] <;> omega)
     refine WK [(1, AV.lst false false (List.map api_Statement.av v1)), (5, AV.ptr 0 0), (6, AV.slc 1 0 13 v12.length false), (7, Iz v10), (9, AV.ptr 3 0), (47, Iz v26), (48, AV.bool (v26 == 0))] [(0, .cells [Lz v6, Iz v27]), (1, .grow (flatA (List.map api_Statement.av v12))), (3, .cells [Iz v21.Author, Iz v21.Number, AV.str v21.Prev, Iz v21.Time, Iz v21.Kind, Iz v21.A, Iz v21.B, Iz v21.C, AV.lst false false (List.map (AV.int .i64) v21.Lst), AV.lst false false (List.map api_Pin.av v21.Pins), AV.str v21.Body, Iz v21.Seal_Key, AV.str v21.Seal_Digest])] 4 (by simp [F4]) (by simp [F4]) ?_
     by_cases h16 : v26 = 0
     ·replace hF := ite_t h16 hF
      have h16q : v26 = 0 := h16
      have h16_ := eqb_t h16q
      have h16__ := neb_f h16q
      have F5 := And.intro F4 (And.intro h16_ (And.intro h16__ h16q))
      refine CT (by simp [F5] <;> omega) ?_
      refine RG [] [none, none] fun _ _ g r => ?_
      try simp [F5]
      and_intros <;> first | exact g _ (by kernel_rfl) | refine r _ _ _ ?_ | omega | (simp [maxLen, F5] <;> omega)
      refine hK806 _ _ _ ?_
      refine RN h0 [(0, 0), (1, 1), (2, 3)] [(1, AV.lst false false (List.map api_Statement.av v1)), (5, AV.ptr 0 0), (6, AV.slc 1 0 13 v12.length false), (7, Iz v10), (9, AV.ptr 2 0)] [(0, .cells [Lz v6, Iz v27]), (1, .grow (flatA (List.map api_Statement.av v12))), (2, .cells [Iz v21.Author, Iz v21.Number, AV.str v21.Prev, Iz v21.Time, Iz v21.Kind, Iz v21.A, Iz 1, Iz v21.C, AV.lst false false (List.map (AV.int .i64) v21.Lst), AV.lst false false (List.map api_Pin.av v21.Pins), AV.str v21.Body, Iz v21.Seal_Key, AV.str v21.Seal_Digest])] 3 (by simp [F5]) (by simp [F5]) ?_
      exact Can.join ((v27, v21.Kind, 1, v21.Seal_Key)) hF (by simp [F5]) (by simp [F5]) (by simp)
     ·replace hF := ite_f h16 hF
      have h16_ := eqb_f h16
      have h16__ := neb_t h16
      have F6 := And.intro F4 (And.intro h16 (And.intro h16_ h16__))
      refine CF (by simp [F6] <;> omega) ?_
      refine SQ [] [none, none] fun _ _ g r => ?_
      try simp [F6]
      and_intros <;> first | exact g _ (by kernel_rfl) | refine r _ _ _ ?_ | omega | (simp [maxLen, F6] <;> omega)
      refine WK [(1, AV.lst false false (List.map api_Statement.av v1)), (5, AV.ptr 0 0), (6, AV.slc 1 0 13 v12.length false), (7, Iz v10), (9, AV.ptr 3 0), (47, Iz v26), (51, AV.bool (v26 == 1))] [(0, .cells [Lz v6, Iz v27]), (1, .grow (flatA (List.map api_Statement.av v12))), (3, .cells [Iz v21.Author, Iz v21.Number, AV.str v21.Prev, Iz v21.Time, Iz v21.Kind, Iz v21.A, Iz v21.B, Iz v21.C, AV.lst false false (List.map (AV.int .i64) v21.Lst), AV.lst false false (List.map api_Pin.av v21.Pins), AV.str v21.Body, Iz v21.Seal_Key, AV.str v21.Seal_Digest])] 4 (by simp [F6]) (by simp [F6]) ?_
      by_cases h17 : v26 = 1
      ·replace hF := ite_t h17 hF
       have h17q : v26 = 1 := h17
       have h17_ := eqb_t h17q
       have h17__ := neb_f h17q
       have F7 := And.intro F6 (And.intro h17_ (And.intro h17__ h17q))
       refine CT (by simp [F7] <;> omega) ?_
       refine RG [] [none, none, none] fun _ _ g r => ?_
       try simp [F7]
       and_intros <;> first | exact g _ (by kernel_rfl) | refine r _ _ _ ?_ | omega | (simp [maxLen, F7] <;> omega)
       refine hK806 _ _ _ ?_
       refine RN h0 [(0, 0), (1, 1), (2, 3)] [(1, AV.lst false false (List.map api_Statement.av v1)), (5, AV.ptr 0 0), (6, AV.slc 1 0 13 v12.length false), (7, Iz v10), (9, AV.ptr 2 0)] [(0, .cells [Lz v6, Iz v27]), (1, .grow (flatA (List.map api_Statement.av v12))), (2, .cells [Iz v21.Author, Iz v21.Number, AV.str v21.Prev, Iz v21.Time, Iz v21.Kind, Iz v21.A, Iz v21.B, Iz v21.C, AV.lst false false (List.map (AV.int .i64) v21.Lst), AV.lst false false (List.map api_Pin.av v21.Pins), AV.str v21.Body, Iz 50, AV.str v21.Seal_Digest])] 3 (by simp [F7]) (by simp [F7]) ?_
       exact Can.join ((v27, v21.Kind, v21.B, 50)) hF (by simp [F7]) (by simp [F7]) (by simp)
      ·replace hF := ite_f h17 hF
       have h17_ := eqb_f h17
       have h17__ := neb_t h17
       have F8 := And.intro F6 (And.intro h17 (And.intro h17_ h17__))
       refine CF (by simp [F8] <;> omega) ?_
       refine SQ [] [none, none] fun _ _ g r => ?_
       try simp [F8]
       and_intros <;> first | exact g _ (by kernel_rfl) | refine r _ _ _ ?_ | omega | (simp [maxLen, F8] <;> omega)
       refine WK [(1, AV.lst false false (List.map api_Statement.av v1)), (5, AV.ptr 0 0), (6, AV.slc 1 0 13 v12.length false), (7, Iz v10), (9, AV.ptr 3 0), (55, AV.bool (v26 == 2))] [(0, .cells [Lz v6, Iz v27]), (1, .grow (flatA (List.map api_Statement.av v12))), (3, .cells [Iz v21.Author, Iz v21.Number, AV.str v21.Prev, Iz v21.Time, Iz v21.Kind, Iz v21.A, Iz v21.B, Iz v21.C, AV.lst false false (List.map (AV.int .i64) v21.Lst), AV.lst false false (List.map api_Pin.av v21.Pins), AV.str v21.Body, Iz v21.Seal_Key, AV.str v21.Seal_Digest])] 4 (by simp [F8]) (by simp [F8]) ?_
       by_cases h18 : v26 = 2
       ·replace hF := ite_t h18 hF
        have h18q : v26 = 2 := h18
        have h18_ := eqb_t h18q
        have h18__ := neb_f h18q
        have F9 := And.intro F8 (And.intro h18_ (And.intro h18__ h18q))
        refine CT (by simp [F9] <;> omega) ?_
        refine RG [] [none, none] fun _ _ g r => ?_
        try simp [F9]
        and_intros <;> first | exact g _ (by kernel_rfl) | refine r _ _ _ ?_ | omega | (simp [maxLen, F9] <;> omega)
        refine hK806 _ _ _ ?_
        refine RN h0 [(0, 0), (1, 1), (2, 3)] [(1, AV.lst false false (List.map api_Statement.av v1)), (5, AV.ptr 0 0), (6, AV.slc 1 0 13 v12.length false), (7, Iz v10), (9, AV.ptr 2 0)] [(0, .cells [Lz v6, Iz v27]), (1, .grow (flatA (List.map api_Statement.av v12))), (2, .cells [Iz v21.Author, Iz v21.Number, AV.str v21.Prev, Iz v21.Time, Iz 11, Iz v21.A, Iz v21.B, Iz v21.C, AV.lst false false (List.map (AV.int .i64) v21.Lst), AV.lst false false (List.map api_Pin.av v21.Pins), AV.str v21.Body, Iz v21.Seal_Key, AV.str v21.Seal_Digest])] 3 (by simp [F9]) (by simp [F9]) ?_
        exact Can.join ((v27, 11, v21.B, v21.Seal_Key)) hF (by simp [F9]) (by simp [F9]) (by simp)
       ·replace hF := ite_f h18 hF
        have h18_ := eqb_f h18
        have h18__ := neb_t h18
        have F10 := And.intro F8 (And.intro h18 (And.intro h18_ h18__))
        refine CF (by simp [F10] <;> omega) ?_
        refine AW.skip ?_
        refine hK806 _ _ _ ?_
        refine RN h0 [(0, 0), (1, 1), (2, 3)] [(1, AV.lst false false (List.map api_Statement.av v1)), (5, AV.ptr 0 0), (6, AV.slc 1 0 13 v12.length false), (7, Iz v10), (9, AV.ptr 2 0)] [(0, .cells [Lz v6, Iz v27]), (1, .grow (flatA (List.map api_Statement.av v12))), (2, .cells [Iz v21.Author, Iz v21.Number, AV.str v21.Prev, Iz v21.Time, Iz v21.Kind, Iz v21.A, Iz v21.B, Iz v21.C, AV.lst false false (List.map (AV.int .i64) v21.Lst), AV.lst false false (List.map api_Pin.av v21.Pins), AV.str v21.Body, Iz v21.Seal_Key, AV.str v21.Seal_Digest])] 3 (by simp [F10]) (by simp [F10]) ?_
        exact Can.join ((v27, v21.Kind, v21.B, v21.Seal_Key)) hF (by simp [F10]) (by simp [F10]) (by simp)
    ·rintro ⟨v22, v23, v24, v25⟩ hF
     try dsimp only at hF
     unfold law34_GuardianAll.J2 at hF
     refine RG [] [none, none, none, none, none] fun _ _ g r => ?_
     obtain ⟨h14, hF⟩ := chk_elim hF
     have h14_ := h14
     try simp at h14_
     have F11 := And.intro F4 h14
     try simp [F11]
     and_intros <;> first | exact g _ (by kernel_rfl) | refine r _ _ _ ?_ | omega | (simp [maxLen, F11] <;> omega)
     refine hK794 _ _ _ ?_
     refine WK [(1, AV.lst false false (List.map api_Statement.av v1)), (5, AV.ptr 0 0), (6, AV.slc 3 0 13 ((v12 ++ ([(api_Statement.mk v21.Author v21.Number v21.Prev v21.Time v23 v21.A v24 v21.C v21.Lst v21.Pins v21.Body v25 v21.Seal_Digest)] : List api_Statement)).length) false), (7, Iz v10)] [(0, .cells [Lz v6, Iz v22]), (3, .grow (flatA (List.map api_Statement.av (v12 ++ ([(api_Statement.mk v21.Author v21.Number v21.Prev v21.Time v23 v21.A v24 v21.C v21.Lst v21.Pins v21.Body v25 v21.Seal_Digest)] : List api_Statement)))))] 4 (by simp [F11] <;> omega) (by simp [F11]) ?_
     refine RG [] [none, none, none] fun _ _ g r => ?_
     try simp [F11]
     and_intros <;> first | exact g _ (by kernel_rfl) | refine r _ _ _ ?_ | omega | (simp [maxLen, F11] <;> omega)
     refine hK772 _ _ _ ?_
     refine RN h0 [(0, 0), (1, 3)] [(1, AV.lst false false (List.map api_Statement.av v1)), (5, AV.ptr 0 0), (6, AV.slc 1 0 13 ((v12 ++ ([(api_Statement.mk v21.Author v21.Number v21.Prev v21.Time v23 v21.A v24 v21.C v21.Lst v21.Pins v21.Body v25 v21.Seal_Digest)] : List api_Statement)).length) false), (7, Iz (IntKind.wrap .i64 (v10 - 1)))] [(0, .cells [Lz v6, Iz v22]), (1, .grow (flatA (List.map api_Statement.av (v12 ++ ([(api_Statement.mk v21.Author v21.Number v21.Prev v21.Time v23 v21.A v24 v21.C v21.Lst v21.Pins v21.Body v25 v21.Seal_Digest)] : List api_Statement)))))] 2 (by simp [F11] <;> omega) (by simp [F11]) ?_
     exact Can.next (k' := n1) ((IntKind.wrap .i64 (v10 - 1), v22, v12 ++ ([(api_Statement.mk v21.Author v21.Number v21.Prev v21.Time v23 v21.A v24 v21.C v21.Lst v21.Pins v21.Body v25 v21.Seal_Digest)] : List api_Statement))) (by omega) hF (by simp [F11]) (by simp [F11]) (by simp)
   ·replace hF := ite_f h8 hF
    have h8_ := h8
    try simp at h8_
    have F12 := And.intro F2 (And.intro h8 h8_)
    refine CF (by simp [F12] <;> omega) ?_
    refine AW.exit ?_
    try simp
    refine hK647 _ _ _ ?_
    refine SQ [] [none, none, none, none] fun _ _ g r => ?_
    obtain ⟨h19, hF⟩ := chk_elim hF
    have h19_ := h19
    try simp at h19_
    have F13 := And.intro F12 h19
    try simp [F13]
    and_intros <;> first | exact g _ (by kernel_rfl) | refine r _ _ _ ?_ | omega | (simp [maxLen, F13] <;> omega)
    refine WK [(6, AV.slc 2 0 13 ((v12 ++ v1).length) false)] [(2, .grow (flatA (List.map api_Statement.av (v12 ++ v1))))] 3 (by simp [F13] <;> omega) (by simp [F13]) ?_
    refine AW.frz 2 (o := .grow (flatA (List.map api_Statement.av (v12 ++ v1)))) (by simp [F13]) rfl [(6, AV.lst false false (List.map api_Statement.av (v12 ++ v1)))] [] ⟨(.l (by simp) (by simp) (by simp) (by simp)), trivial⟩ trivial ?_
    refine WK [(6, AV.lst false false (List.map api_Statement.av (v12 ++ v1)))] [] 3 (by simp [F13]) (by simp [F13]) ?_
    refine AW.seq fun K877 hK877 => ?_
    refine SQ [] [none] fun _ _ g r => ?_
    try simp [F13]
    and_intros <;> first | exact g _ (by kernel_rfl) | refine r _ _ _ ?_ | omega | (simp [maxLen, F13] <;> omega)
    refine WK [(6, AV.lst false false (List.map api_Statement.av (v12 ++ v1))), (10, Iz 0)] [] 3 (by simp [F13]) (by simp [F13]) ?_
    refine AW.block ?_
    refine RM h0 [] [(6, AV.lst false false (List.map api_Statement.av (v12 ++ v1))), (10, Iz 0)] [] 0 (by simp [F13]) (by simp [F13]) ?_
    refine AW.loopF (α := Int) (fun n v28 => law34_GuardianAll.L3 k v1 v12 n v28 = some v2) (fun v28 => [(6, AV.lst false false (List.map api_Statement.av (v12 ++ v1))), (10, Iz v28)]) (fun v28 => []) 0 k (0) hF (by simp [F13]) (by simp [F13]) (by simp) ?_
    rintro (_|n3) v28 hF K924 hK924
    ·try dsimp only at hF
     rw [law34_GuardianAll.L3] at hF; cases hF
    try dsimp only at hF
    rw [law34_GuardianAll.L3] at hF
    refine AW.seq fun K926 hK926 => ?_
    refine SQ [] [none, none, none, none] fun _ _ g r => ?_
    try simp [F13]
    and_intros <;> first | exact g _ (by kernel_rfl) | refine r _ _ _ ?_ | omega | (simp [maxLen, F13] <;> omega)
    refine WK [(6, AV.lst false false (List.map api_Statement.av (v12 ++ v1))), (10, Iz v28), (68, AV.bool (decide (v28 < ((v12 ++ v1).length : Int))))] [] 0 (by simp [F13]) (by simp [F13]) ?_
    by_cases h20 : v28 < ((v12 ++ v1).length : Int)
    ·replace hF := ite_t h20 hF
     have h20_ := h20
     try simp at h20_
     have F14 := And.intro F13 (And.intro h20 h20_)
     refine CT (by simp [F14] <;> omega) ?_
     refine AW.skip ?_
     refine hK926 _ _ _ ?_
     refine AW.seq fun K933 hK933 => ?_
     refine AW.block ?_
     refine SQ [] [none, none, none, none, none, none, none, none, none, none, none] fun _ _ g r => ?_
     obtain ⟨v29, h21, h22, h23, hF⟩ := idx_elim hF
     have h23_ := get_of h23
     try simp at h23_
     have h22_ := h22
     try simp at h22_
     have h23__ := get_of (map_get (api_Statement.av) h23)
     try simp at h23__
     have F15 := And.intro F14 (And.intro h21 (And.intro h22 (And.intro h23 (And.intro h23_ (And.intro h22_ h23__)))))
     try simp [F15]
     and_intros
     try any_goals first | omega | (simp [maxLen, F15] <;> omega)
     obtain ⟨v30, v31, v32, v33, h24, hF⟩ := bnd4_elim hF
     refine AC (w_guardian_Of k _ _ _ _ _ _ _ _ _ _ _ _ _ _ _ _ _ h24) (.cons (.same (by simp [F15])) .nil) ?_
     try simp [F15]
     and_intros <;> first | exact g _ (by kernel_rfl) | refine r _ _ _ ?_ | omega | (simp [maxLen, F15] <;> omega)
     refine WK [(6, AV.lst false false (List.map api_Statement.av (v12 ++ v1))), (10, Iz v28), (11, AV.ptr 0 0), (12, Iz v33)] [(0, .cells [Iz v30, Iz v31, Lz v32])] 1 (by simp [F15]) (by simp [F15]) ?_
     refine SQ [] [none, none, none, none, none, none, none, none, none, none, none] fun _ _ g r => ?_
     try simp [F15]
     and_intros
     try any_goals first | omega | (simp [maxLen, F15] <;> omega)
     obtain ⟨v34, v35, v36, v37, h25, hF⟩ := bnd4_elim hF
     refine AC (w_ref34_Of k _ _ _ _ _ _ _ _ _ _ _ _ _ _ _ _ _ h25) (.cons (.same (by simp [F15])) .nil) ?_
     try simp [F15]
     and_intros <;> first | exact g _ (by kernel_rfl) | refine r _ _ _ ?_ | omega | (simp [maxLen, F15] <;> omega)
     refine WK [(6, AV.lst false false (List.map api_Statement.av (v12 ++ v1))), (10, Iz v28), (11, AV.ptr 0 0), (12, Iz v33), (13, AV.ptr 1 0), (14, Iz v37)] [(0, .cells [Iz v30, Iz v31, Lz v32]), (1, .cells [Iz v34, Iz v35, Lz v36])] 2 (by simp [F15]) (by simp [F15]) ?_
     refine SQ [] [none, none, none, none, some (90, false), some (90, false), some (90, false), some (90, false), some (90, false), some (90, false), none] fun _ _ g r => ?_
     by_cases h26 : v33 ≠ v37
     ·replace hF := ite_t h26 hF
      have h26_ := eqb_f h26
      have h26__ := neb_t h26
      have F16 := And.intro F15 (And.intro h26 (And.intro h26_ h26__))
      try simp [F16]
      and_intros <;> first | exact g _ (by kernel_rfl) | refine r _ _ _ ?_ | omega | (simp [maxLen, F16] <;> omega)
      refine WK [(6, AV.lst false false (List.map api_Statement.av (v12 ++ v1))), (10, Iz v28), (97, AV.bool true)] [] 2 (by simp [F16]) (by simp [F16]) ?_
      refine CT (by simp [F16]) ?_
      refine SQ [] [none] fun _ _ g r => ?_
      try simp [F16]
      and_intros <;> first | exact g _ (by kernel_rfl) | refine r _ _ _ ?_ | omega | (simp [maxLen, F16] <;> omega)
      refine WK [(4, AV.bool false)] [] 2 (by simp [F16]) (by simp [F16]) ?_
      simp only [Option.some.injEq] at hF
      subst hF
      refine AW.ret (hQ _ _ _ ?_ (matchO_0 ?_)).1
      ·simp [Try.f5, F16]
      ·simp [F16]
     ·replace hF := ite_f h26 hF
      have h26q : v33 = v37 := Classical.not_not.1 h26
      have h26_ := eqb_t h26q
      have h26__ := neb_f h26q
      have F17 := And.intro F15 (And.intro h26_ h26__)
      try simp [F17]
      and_intros
      try any_goals first | omega | (simp [maxLen, F17] <;> omega)
      obtain ⟨v38, h27, hF⟩ := bnd1_elim hF
      refine AC (w_ref34_Same k _ _ _ h27) (.cons (Coe.fl (by simp [F17])) (.cons (Coe.fl (by simp [F17])) .nil)) ?_
      try simp [F17]
      and_intros <;> first | exact g _ (by kernel_rfl) | refine r _ _ _ ?_ | omega | (simp [maxLen, F17] <;> omega)
      refine WK [(6, AV.lst false false (List.map api_Statement.av (v12 ++ v1))), (10, Iz v28), (97, AV.bool (!v38))] [] 2 (by simp [F17]) (by simp [F17]) ?_
      by_cases h28 : (!v38) = true
      ·replace hF := ite_t h28 hF
       have h28_ := h28
       try simp at h28_
       have F18 := And.intro F17 (And.intro h28 h28_)
       refine CT (by simp [F18] <;> omega) ?_
       refine SQ [] [none] fun _ _ g r => ?_
       try simp [F18]
       and_intros <;> first | exact g _ (by kernel_rfl) | refine r _ _ _ ?_ | omega | (simp [maxLen, F18] <;> omega)
       refine WK [(4, AV.bool false)] [] 2 (by simp [F18]) (by simp [F18]) ?_
       simp only [Option.some.injEq] at hF
       subst hF
       refine AW.ret (hQ _ _ _ ?_ (matchO_0 ?_)).1
       ·simp [Try.f5, F18]
       ·simp [F18]
      ·replace hF := ite_f h28 hF
       have h28_ := h28
       try simp at h28_
       have F19 := And.intro F17 (And.intro h28 h28_)
       refine CF (by simp [F19] <;> omega) ?_
       refine AW.skip ?_
       refine hK933 _ _ _ ?_
       refine RG [] [none, none, none] fun _ _ g r => ?_
       try simp [F19]
       and_intros <;> first | exact g _ (by kernel_rfl) | refine r _ _ _ ?_ | omega | (simp [maxLen, F19] <;> omega)
       refine hK924 _ _ _ ?_
       refine RN h0 [] [(6, AV.lst false false (List.map api_Statement.av (v12 ++ v1))), (10, Iz (IntKind.wrap .i64 (v28 + 1)))] [] 0 (by simp [F19]) (by simp [F19]) ?_
       exact Can.next (k' := n3) (IntKind.wrap .i64 (v28 + 1)) (by omega) hF (by simp [F19]) (by simp [F19]) (by simp)
    ·replace hF := ite_f h20 hF
     have h20_ := h20
     try simp at h20_
     have F20 := And.intro F13 (And.intro h20 h20_)
     refine CF (by simp [F20] <;> omega) ?_
     refine AW.exit ?_
     try simp
     refine hK877 _ _ _ ?_
     refine SQ [] [none, none, none, none, none, none, some (103, true), none, none] fun _ _ g r => ?_
     try simp [F20]
     and_intros
     try any_goals first | omega | (simp [maxLen, F20] <;> omega)
     obtain ⟨v39, h29, hF⟩ := bnd1_elim hF
     refine AC (w_guardian_All k _ _ h29) (.cons (.same (by simp [F20])) .nil) ?_
     try simp [F20]
     and_intros
     try any_goals first | omega | (simp [maxLen, F20] <;> omega)
     obtain ⟨v40, h30, hF⟩ := bnd1_elim hF
     refine AC (w_ref34_All k _ _ h30) (.cons (.same (by simp [F20])) .nil) ?_
     try simp [F20]
     and_intros
     try any_goals first | omega | (simp [maxLen, F20] <;> omega)
     obtain ⟨v41, h31, hF⟩ := bnd1_elim hF
     refine aCall_l (w_ref34_Same k _ _ _ h31) (by simp) [] [0, 1] [] rfl (.cons (Coe.l (o := .grow (flatA (List.map api_Guard.av v39))) (by simp [F20]) rfl (by simp [F20]) (by simp [noIdsL]) (by simp [F20]) (by simp [F20])) (.cons (Coe.l (o := .grow (flatA (List.map api_Guard.av v40))) (by simp [F20]) rfl (by simp [F20]) (by simp [noIdsL]) (by simp [F20]) (by simp [F20])) .nil)) (by simp [F20]) (by decide) (by simp) (by simp) (.inr ⟨by simp, by simp⟩) (by simp) (by simp) ?_
     by_cases h32 : v41 = true
     ·replace hF := ite_t h32 hF
      have h32_ := h32
      try simp at h32_
      have F21 := And.intro F20 (And.intro h32 h32_)
      try simp [F21]
      and_intros
      try any_goals first | omega | (simp [maxLen, F21] <;> omega)
      obtain ⟨v42, h33, hF⟩ := bnd1_elim hF
      refine AC (w_law34_awake k _ h33) .nil ?_
      try simp [F21]
      and_intros <;> first | exact g _ (by kernel_rfl) | refine r _ _ _ ?_ | omega | (simp [maxLen, F21] <;> omega)
      refine WK [(4, AV.bool v42)] [] 2 (by simp [F21]) (by simp [F21]) ?_
      simp only [Option.some.injEq] at hF
      subst hF
      refine AW.ret (hQ _ _ _ ?_ (matchO_0 ?_)).1
      ·simp [Try.f5, F21]
      ·simp [F21]
     ·replace hF := ite_f h32 hF
      have h32_ := h32
      try simp at h32_
      have F22 := And.intro F20 (And.intro h32 h32_)
      try simp [F22]
      and_intros <;> first | exact g _ (by kernel_rfl) | refine r _ _ _ ?_ | omega | (simp [maxLen, F22] <;> omega)
      refine WK [(4, AV.bool false)] [] 2 (by simp [F22]) (by simp [F22]) ?_
      simp only [Option.some.injEq] at hF
      subst hF
      refine AW.ret (hQ _ _ _ ?_ (matchO_0 ?_)).1
      ·simp [Try.f5, F22]
      ·simp [F22]
end Go.TF
