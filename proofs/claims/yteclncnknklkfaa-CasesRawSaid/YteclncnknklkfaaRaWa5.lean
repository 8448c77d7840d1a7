/- Walks: the Go text computes the Lean functions (printed by a program of our own). -/
import Derived.Test.YteclncnknklkfaaRaPu
import Derived.Test.YteclncnknklkfaaRaAbsT
import Derived.Test.YteclncnknklkfaaRaWa0
import Derived.Test.YteclncnknklkfaaRaWa1
import Derived.Test.YteclncnknklkfaaRaWa2
import Derived.Test.YteclncnknklkfaaRaWa3
import Derived.Test.YteclncnknklkfaaRaWa4
set_option linter.unusedVariables false
set_option linter.unusedSimpArgs false
set_option maxRecDepth 100000
set_option maxHeartbeats 4000000
namespace Go.TF
open Go Go.Abs Go.Proofs Go.Proofs.YteclncnknklkfaaRaT
theorem w_ref23_Order (k : Nat) (v0 : (List Int)) (v1 : (List api_Pin)) (v2 : (List Int)) (v3 : (List api_Pin)) (v4 : Int) (hF : ref23_Order k v0 v1 v2 v3 = some v4) :
  FCall Try.prog 19 [AV.agg [AV.lst false false (List.map (AV.int .i64) v0), AV.lst false false (List.map api_Pin.av v1)], AV.agg [AV.lst false false (List.map (AV.int .i64) v2), AV.lst false false (List.map api_Pin.av v3)]] [] (AV.int .i64 v4) [] := by
 unfold ref23_Order at hF
 refine EN Try.func19 ?_
 intro c0 w0 Q h0 hQ
 refine WK [(0, AV.agg [Lz v0, AV.lst false false (List.map api_Pin.av v1)]), (1, AV.agg [Lz v2, AV.lst false false (List.map api_Pin.av v3)])] [] 0 (by simp) (by simp) ?_
 refine SQ [] [none, none, none] fun _ _ g r => ?_
 try simp
 and_intros <;> first | exact g _ (by kernel_rfl) | refine r _ _ _ ?_ | omega | (simp [maxLen] <;> omega)
 refine WK [(2, AV.ptr 0 0), (3, AV.ptr 1 0)] [(0, .cells [Lz v0, AV.lst false false (List.map api_Pin.av v1)]), (1, .cells [Lz v2, AV.lst false false (List.map api_Pin.av v3)])] 2 (by simp) (by simp) ?_
 refine AW.midF (α := Unit) (fun _ => ref23_Order.J1 k v0 v1 v2 v3 = some v4) (fun _ => [(2, AV.ptr 0 0), (3, AV.ptr 1 0)]) (fun _ => [(0, .cells [Lz v0, AV.lst false false (List.map api_Pin.av v1)]), (1, .cells [Lz v2, AV.lst false false (List.map api_Pin.av v3)])]) 2 (fun K952 hK952 => ?_) ?_
 ·refine SQ [] [none] fun _ _ g r => ?_
  try simp
  and_intros <;> first | exact g _ (by kernel_rfl) | refine r _ _ _ ?_ | omega | (simp [maxLen] <;> omega)
  refine WK [(2, AV.ptr 0 0), (3, AV.ptr 1 0), (5, Iz 0)] [(0, .cells [Lz v0, AV.lst false false (List.map api_Pin.av v1)]), (1, .cells [Lz v2, AV.lst false false (List.map api_Pin.av v3)])] 2 (by simp) (by simp) ?_
  refine AW.block ?_
  refine AW.loopF (α := Int) (fun n v12 => ref23_Order.L4 k v0 v1 v2 v3 n v12 = some v4) (fun v12 => [(2, AV.ptr 0 0), (3, AV.ptr 1 0), (5, Iz v12)]) (fun v12 => [(0, .cells [Lz v0, AV.lst false false (List.map api_Pin.av v1)]), (1, .cells [Lz v2, AV.lst false false (List.map api_Pin.av v3)])]) 2 k (0) hF (by simp) (by simp) (by simp) ?_
  rintro (_|n4) v12 hF K987 hK987
  ·try dsimp only at hF
   rw [ref23_Order.L4] at hF; cases hF
  try dsimp only at hF
  rw [ref23_Order.L4] at hF
  refine AW.seq fun K989 hK989 => ?_
  refine SQ [] [none, none, none, none, none, none, some (18, true), some (18, true), some (18, true), some (18, true), some (18, true), none] fun _ _ g r => ?_
  by_cases h18 : v12 < (v0.length : Int)
  ·replace hF := ite_t h18 hF
   have h18_ := h18
   try simp at h18_
   try simp [h18, h18_]
   and_intros <;> first | exact g _ (by kernel_rfl) | refine r _ _ _ ?_ | omega | (simp [h18, h18_, maxLen] <;> omega)
   refine WK [(2, AV.ptr 0 0), (3, AV.ptr 1 0), (5, Iz v12), (24, AV.bool (decide (v12 < (v2.length : Int))))] [(0, .cells [Lz v0, AV.lst false false (List.map api_Pin.av v1)]), (1, .cells [Lz v2, AV.lst false false (List.map api_Pin.av v3)])] 2 (by simp [h18, h18_]) (by simp [h18, h18_]) ?_
   by_cases h19 : v12 < (v2.length : Int)
   ·replace hF := ite_t h19 hF
    have h19_ := h19
    try simp at h19_
    have F1 := And.intro h18 (And.intro h18_ (And.intro h19 h19_))
    refine CT (by simp [F1] <;> omega) ?_
    refine AW.skip ?_
    refine hK989 _ _ _ ?_
    refine AW.seq fun K994 hK994 => ?_
    refine AW.block ?_
    refine SQ [] [none, none, none, none, none, none, none, none, none, none, none, none] fun _ _ g r => ?_
    obtain ⟨v13, h20, h21, h22, hF⟩ := idx_elim hF
    have h22_ := get_of h22
    try simp at h22_
    have h21_ := h21
    try simp at h21_
    obtain ⟨v14, h23, h24, h25, hF⟩ := idx_elim hF
    have h25_ := get_of h25
    try simp at h25_
    have h24_ := h24
    try simp at h24_
    have F2 := And.intro F1 (And.intro h20 (And.intro h21 (And.intro h22 (And.intro h22_ (And.intro h21_ (And.intro h23 (And.intro h24 (And.intro h25 (And.intro h25_ h24_)))))))))
    try simp [F2]
    and_intros
    try any_goals first | omega | (simp [maxLen, F2] <;> omega)
    obtain ⟨v15, h26, hF⟩ := bnd1_elim hF
    refine AC (w_ref23_cmp k _ _ _ h26) (.cons (.same (by simp [F2])) (.cons (.same (by simp [F2])) .nil)) ?_
    try simp [F2]
    and_intros <;> first | exact g _ (by kernel_rfl) | refine r _ _ _ ?_ | omega | (simp [maxLen, F2] <;> omega)
    refine WK [(2, AV.ptr 0 0), (3, AV.ptr 1 0), (5, Iz v12), (6, Iz v15)] [(0, .cells [Lz v0, AV.lst false false (List.map api_Pin.av v1)]), (1, .cells [Lz v2, AV.lst false false (List.map api_Pin.av v3)])] 2 (by simp [F2]) (by simp [F2]) ?_
    refine SQ [] [none, none] fun _ _ g r => ?_
    try simp [F2]
    and_intros <;> first | exact g _ (by kernel_rfl) | refine r _ _ _ ?_ | omega | (simp [maxLen, F2] <;> omega)
    refine WK [(2, AV.ptr 0 0), (3, AV.ptr 1 0), (5, Iz v12), (6, Iz v15), (39, AV.bool (v15 != 0))] [(0, .cells [Lz v0, AV.lst false false (List.map api_Pin.av v1)]), (1, .cells [Lz v2, AV.lst false false (List.map api_Pin.av v3)])] 2 (by simp [F2]) (by simp [F2]) ?_
    by_cases h27 : v15 ≠ 0
    ·replace hF := ite_t h27 hF
     have h27_ := eqb_f h27
     have h27__ := neb_t h27
     have F3 := And.intro F2 (And.intro h27 (And.intro h27_ h27__))
     refine CT (by simp [F3] <;> omega) ?_
     refine SQ [] [none, none] fun _ _ g r => ?_
     try simp [F3]
     and_intros <;> first | exact g _ (by kernel_rfl) | refine r _ _ _ ?_ | omega | (simp [maxLen, F3] <;> omega)
     refine WK [(4, Iz v15)] [] 2 (by simp [F3]) (by simp [F3]) ?_
     simp only [Option.some.injEq] at hF
     subst hF
     refine AW.ret (hQ _ _ _ ?_ (matchO_0 ?_)).1
     ·simp [Try.f19, F3]
     ·simp [F3]
    ·replace hF := ite_f h27 hF
     have h27q : v15 = 0 := Classical.not_not.1 h27
     have h27_ := eqb_t h27q
     have h27__ := neb_f h27q
     have F4 := And.intro F2 (And.intro h27_ (And.intro h27__ h27q))
     refine CF (by simp [F4] <;> omega) ?_
     refine AW.skip ?_
     refine hK994 _ _ _ ?_
     refine RG [] [none, none, none] fun _ _ g r => ?_
     try simp [F4]
     and_intros <;> first | exact g _ (by kernel_rfl) | refine r _ _ _ ?_ | omega | (simp [maxLen, F4] <;> omega)
     refine hK987 _ _ _ ?_
     exact NX (k' := n4) (IntKind.wrap .i64 (v12 + 1)) hF (by simp [F4]) (by simp [F4])
   ·replace hF := ite_f h19 hF
    have h19_ := h19
    try simp at h19_
    have F5 := And.intro h18 (And.intro h18_ (And.intro h19 h19_))
    refine CF (by simp [F5] <;> omega) ?_
    refine AW.exit ?_
    try simp
    refine hK952 _ _ _ ?_
    exact JN (()) hF (by simp [F5]) (by simp [F5])
  ·replace hF := ite_f h18 hF
   have h18_ := h18
   try simp at h18_
   try simp [h18, h18_]
   and_intros <;> first | exact g _ (by kernel_rfl) | refine r _ _ _ ?_ | omega | (simp [h18, h18_, maxLen] <;> omega)
   refine WK [(2, AV.ptr 0 0), (3, AV.ptr 1 0), (5, Iz v12), (24, AV.bool false)] [(0, .cells [Lz v0, AV.lst false false (List.map api_Pin.av v1)]), (1, .cells [Lz v2, AV.lst false false (List.map api_Pin.av v3)])] 2 (by simp [h18, h18_]) (by simp [h18, h18_]) ?_
   refine CF (by simp [h18, h18_]) ?_
   refine AW.exit ?_
   try simp
   refine hK952 _ _ _ ?_
   exact JN (()) hF (by simp [h18, h18_]) (by simp [h18, h18_])
 ·rintro ⟨⟩ hF
  try dsimp only at hF
  unfold ref23_Order.J1 at hF
  refine AW.seq fun K550 hK550 => ?_
  refine SQ [] [none, none, none, none, none, none, none, none] fun _ _ g r => ?_
  try simp
  and_intros
  try any_goals first | omega | (simp [maxLen] <;> omega)
  obtain ⟨v5, h1, hF⟩ := bnd1_elim hF
  refine AC (w_ref23_cmp k _ _ _ h1) (.cons (.same (by simp)) (.cons (.same (by simp)) .nil)) ?_
  try simp
  and_intros <;> first | exact g _ (by kernel_rfl) | refine r _ _ _ ?_ | omega | (simp [maxLen] <;> omega)
  refine WK [(2, AV.ptr 0 0), (3, AV.ptr 1 0), (7, Iz v5)] [(0, .cells [Lz v0, AV.lst false false (List.map api_Pin.av v1)]), (1, .cells [Lz v2, AV.lst false false (List.map api_Pin.av v3)])] 2 (by simp) (by simp) ?_
  refine SQ [] [none, none] fun _ _ g r => ?_
  try simp
  and_intros <;> first | exact g _ (by kernel_rfl) | refine r _ _ _ ?_ | omega | (simp [maxLen] <;> omega)
  refine WK [(2, AV.ptr 0 0), (3, AV.ptr 1 0), (7, Iz v5), (49, AV.bool (v5 != 0))] [(0, .cells [Lz v0, AV.lst false false (List.map api_Pin.av v1)]), (1, .cells [Lz v2, AV.lst false false (List.map api_Pin.av v3)])] 2 (by simp) (by simp) ?_
  by_cases h2 : v5 ≠ 0
  ·replace hF := ite_t h2 hF
   have h2_ := eqb_f h2
   have h2__ := neb_t h2
   have F6 := And.intro h2 (And.intro h2_ h2__)
   refine CT (by simp [F6] <;> omega) ?_
   refine SQ [] [none, none] fun _ _ g r => ?_
   try simp [F6]
   and_intros <;> first | exact g _ (by kernel_rfl) | refine r _ _ _ ?_ | omega | (simp [maxLen, F6] <;> omega)
   refine WK [(4, Iz v5)] [] 2 (by simp [F6]) (by simp [F6]) ?_
   simp only [Option.some.injEq] at hF
   subst hF
   refine AW.ret (hQ _ _ _ ?_ (matchO_0 ?_)).1
   ·simp [Try.f19, F6]
   ·simp [F6]
  ·replace hF := ite_f h2 hF
   have h2q : v5 = 0 := Classical.not_not.1 h2
   have h2_ := eqb_t h2q
   have h2__ := neb_f h2q
   have F7 := And.intro h2_ (And.intro h2__ h2q)
   refine CF (by simp [F7] <;> omega) ?_
   refine AW.skip ?_
   refine hK550 _ _ _ ?_
   refine AW.midF (α := Unit) (fun _ => ref23_Order.J2 k v1 v3 = some v4) (fun _ => [(2, AV.ptr 0 0), (3, AV.ptr 1 0)]) (fun _ => [(0, .cells [Lz v0, AV.lst false false (List.map api_Pin.av v1)]), (1, .cells [Lz v2, AV.lst false false (List.map api_Pin.av v3)])]) 2 (fun K753 hK753 => ?_) ?_
   ·refine SQ [] [none] fun _ _ g r => ?_
    try simp [F7]
    and_intros <;> first | exact g _ (by kernel_rfl) | refine r _ _ _ ?_ | omega | (simp [maxLen, F7] <;> omega)
    refine WK [(2, AV.ptr 0 0), (3, AV.ptr 1 0), (8, Iz 0)] [(0, .cells [Lz v0, AV.lst false false (List.map api_Pin.av v1)]), (1, .cells [Lz v2, AV.lst false false (List.map api_Pin.av v3)])] 2 (by simp [F7]) (by simp [F7]) ?_
    refine AW.block ?_
    refine AW.loopF (α := Int) (fun n v7 => ref23_Order.L3 k v1 v3 n v7 = some v4) (fun v7 => [(2, AV.ptr 0 0), (3, AV.ptr 1 0), (8, Iz v7)]) (fun v7 => [(0, .cells [Lz v0, AV.lst false false (List.map api_Pin.av v1)]), (1, .cells [Lz v2, AV.lst false false (List.map api_Pin.av v3)])]) 2 k (0) hF (by simp [F7]) (by simp [F7]) (by simp) ?_
    rintro (_|n3) v7 hF K902 hK902
    ·try dsimp only at hF
     rw [ref23_Order.L3] at hF; cases hF
    try dsimp only at hF
    rw [ref23_Order.L3] at hF
    refine AW.seq fun K904 hK904 => ?_
    refine SQ [] [none, none, none, none, none, none, some (56, true), some (56, true), some (56, true), some (56, true), some (56, true), none] fun _ _ g r => ?_
    by_cases h4 : v7 < (v1.length : Int)
    ·replace hF := ite_t h4 hF
     have h4_ := h4
     try simp at h4_
     have F8 := And.intro F7 (And.intro h4 h4_)
     try simp [F8]
     and_intros <;> first | exact g _ (by kernel_rfl) | refine r _ _ _ ?_ | omega | (simp [maxLen, F8] <;> omega)
     refine WK [(2, AV.ptr 0 0), (3, AV.ptr 1 0), (8, Iz v7), (62, AV.bool (decide (v7 < (v3.length : Int))))] [(0, .cells [Lz v0, AV.lst false false (List.map api_Pin.av v1)]), (1, .cells [Lz v2, AV.lst false false (List.map api_Pin.av v3)])] 2 (by simp [F8]) (by simp [F8]) ?_
     by_cases h5 : v7 < (v3.length : Int)
     ·replace hF := ite_t h5 hF
      have h5_ := h5
      try simp at h5_
      have F9 := And.intro F8 (And.intro h5 h5_)
      refine CT (by simp [F9] <;> omega) ?_
      refine AW.skip ?_
      refine hK904 _ _ _ ?_
      refine AW.seq fun K928 hK928 => ?_
      refine AW.block ?_
      refine SQ [] [none, none, none, none, none, none, none, none, none, none, none, none, none, none] fun _ _ g r => ?_
      obtain ⟨v8, h6, h7, h8, hF⟩ := idx_elim hF
      have h8_ := get_of h8
      try simp at h8_
      have h7_ := h7
      try simp at h7_
      obtain ⟨v9, h9, h10, h11, hF⟩ := idx_elim hF
      have h11_ := get_of h11
      try simp at h11_
      have h10_ := h10
      try simp at h10_
      have F10 := And.intro F9 (And.intro h6 (And.intro h7 (And.intro h8 (And.intro h8_ (And.intro h7_ (And.intro h9 (And.intro h10 (And.intro h11 (And.intro h11_ h10_)))))))))
      try simp [F10]
      and_intros <;> first | exact g _ (by kernel_rfl) | refine r _ _ _ ?_ | omega | (simp [maxLen, F10] <;> omega)
      refine WK [(2, AV.ptr 0 0), (3, AV.ptr 1 0), (8, Iz v7), (9, AV.ptr 2 0), (10, AV.ptr 3 0)] [(0, .cells [Lz v0, AV.lst false false (List.map api_Pin.av v1)]), (1, .cells [Lz v2, AV.lst false false (List.map api_Pin.av v3)]), (2, .cells [Iz v8.Author, Iz v8.Height, AV.str v8.Digest]), (3, .cells [Iz v9.Author, Iz v9.Height, AV.str v9.Digest])] 4 (by simp [F10]) (by simp [F10]) ?_
      refine AW.seq fun K933 hK933 => ?_
      refine SQ [] [none, none, none, none, none, none] fun _ _ g r => ?_
      try simp [F10]
      and_intros
      try any_goals first | omega | (simp [maxLen, F10] <;> omega)
      obtain ⟨v10, h12, hF⟩ := bnd1_elim hF
      refine AC (w_ref23_cmp k _ _ _ h12) (.cons (.same (by simp [F10])) (.cons (.same (by simp [F10])) .nil)) ?_
      try simp [F10]
      and_intros <;> first | exact g _ (by kernel_rfl) | refine r _ _ _ ?_ | omega | (simp [maxLen, F10] <;> omega)
      refine WK [(2, AV.ptr 0 0), (3, AV.ptr 1 0), (8, Iz v7), (9, AV.ptr 2 0), (10, AV.ptr 3 0), (11, Iz v10)] [(0, .cells [Lz v0, AV.lst false false (List.map api_Pin.av v1)]), (1, .cells [Lz v2, AV.lst false false (List.map api_Pin.av v3)]), (2, .cells [Iz v8.Author, Iz v8.Height, AV.str v8.Digest]), (3, .cells [Iz v9.Author, Iz v9.Height, AV.str v9.Digest])] 4 (by simp [F10]) (by simp [F10]) ?_
      refine SQ [] [none, none] fun _ _ g r => ?_
      try simp [F10]
      and_intros <;> first | exact g _ (by kernel_rfl) | refine r _ _ _ ?_ | omega | (simp [maxLen, F10] <;> omega)
      refine WK [(2, AV.ptr 0 0), (3, AV.ptr 1 0), (8, Iz v7), (9, AV.ptr 2 0), (10, AV.ptr 3 0), (11, Iz v10), (81, AV.bool (v10 != 0))] [(0, .cells [Lz v0, AV.lst false false (List.map api_Pin.av v1)]), (1, .cells [Lz v2, AV.lst false false (List.map api_Pin.av v3)]), (2, .cells [Iz v8.Author, Iz v8.Height, AV.str v8.Digest]), (3, .cells [Iz v9.Author, Iz v9.Height, AV.str v9.Digest])] 4 (by simp [F10]) (by simp [F10]) ?_
      by_cases h13 : v10 ≠ 0
      ·replace hF := ite_t h13 hF
       have h13_ := eqb_f h13
       have h13__ := neb_t h13
       have F11 := And.intro F10 (And.intro h13 (And.intro h13_ h13__))
       refine CT (by simp [F11] <;> omega) ?_
       refine SQ [] [none, none] fun _ _ g r => ?_
       try simp [F11]
       and_intros <;> first | exact g _ (by kernel_rfl) | refine r _ _ _ ?_ | omega | (simp [maxLen, F11] <;> omega)
       refine WK [(4, Iz v10)] [] 4 (by simp [F11]) (by simp [F11]) ?_
       simp only [Option.some.injEq] at hF
       subst hF
       refine AW.ret (hQ _ _ _ ?_ (matchO_0 ?_)).1
       ·simp [Try.f19, F11]
       ·simp [F11]
      ·replace hF := ite_f h13 hF
       have h13q : v10 = 0 := Classical.not_not.1 h13
       have h13_ := eqb_t h13q
       have h13__ := neb_f h13q
       have F12 := And.intro F10 (And.intro h13_ (And.intro h13__ h13q))
       refine CF (by simp [F12] <;> omega) ?_
       refine AW.skip ?_
       refine hK933 _ _ _ ?_
       refine AW.seq fun K940 hK940 => ?_
       refine SQ [] [none, none, none, none, none, none] fun _ _ g r => ?_
       try simp [F12]
       and_intros
       try any_goals first | omega | (simp [maxLen, F12] <;> omega)
       obtain ⟨v11, h14, hF⟩ := bnd1_elim hF
       refine AC (w_ref23_cmp k _ _ _ h14) (.cons (.same (by simp [F12])) (.cons (.same (by simp [F12])) .nil)) ?_
       try simp [F12]
       and_intros <;> first | exact g _ (by kernel_rfl) | refine r _ _ _ ?_ | omega | (simp [maxLen, F12] <;> omega)
       refine WK [(2, AV.ptr 0 0), (3, AV.ptr 1 0), (8, Iz v7), (9, AV.ptr 2 0), (10, AV.ptr 3 0), (12, Iz v11)] [(0, .cells [Lz v0, AV.lst false false (List.map api_Pin.av v1)]), (1, .cells [Lz v2, AV.lst false false (List.map api_Pin.av v3)]), (2, .cells [Iz v8.Author, Iz v8.Height, AV.str v8.Digest]), (3, .cells [Iz v9.Author, Iz v9.Height, AV.str v9.Digest])] 4 (by simp [F12]) (by simp [F12]) ?_
       refine SQ [] [none, none] fun _ _ g r => ?_
       try simp [F12]
       and_intros <;> first | exact g _ (by kernel_rfl) | refine r _ _ _ ?_ | omega | (simp [maxLen, F12] <;> omega)
       refine WK [(2, AV.ptr 0 0), (3, AV.ptr 1 0), (8, Iz v7), (9, AV.ptr 2 0), (10, AV.ptr 3 0), (12, Iz v11), (89, AV.bool (v11 != 0))] [(0, .cells [Lz v0, AV.lst false false (List.map api_Pin.av v1)]), (1, .cells [Lz v2, AV.lst false false (List.map api_Pin.av v3)]), (2, .cells [Iz v8.Author, Iz v8.Height, AV.str v8.Digest]), (3, .cells [Iz v9.Author, Iz v9.Height, AV.str v9.Digest])] 4 (by simp [F12]) (by simp [F12]) ?_
       by_cases h15 : v11 ≠ 0
       ·replace hF := ite_t h15 hF
        have h15_ := eqb_f h15
        have h15__ := neb_t h15
        have F13 := And.intro F12 (And.intro h15 (And.intro h15_ h15__))
        refine CT (by simp [F13] <;> omega) ?_
        refine SQ [] [none, none] fun _ _ g r => ?_
        try simp [F13]
        and_intros <;> first | exact g _ (by kernel_rfl) | refine r _ _ _ ?_ | omega | (simp [maxLen, F13] <;> omega)
        refine WK [(4, Iz v11)] [] 4 (by simp [F13]) (by simp [F13]) ?_
        simp only [Option.some.injEq] at hF
        subst hF
        refine AW.ret (hQ _ _ _ ?_ (matchO_0 ?_)).1
        ·simp [Try.f19, F13]
        ·simp [F13]
       ·replace hF := ite_f h15 hF
        have h15q : v11 = 0 := Classical.not_not.1 h15
        have h15_ := eqb_t h15q
        have h15__ := neb_f h15q
        have F14 := And.intro F12 (And.intro h15_ (And.intro h15__ h15q))
        refine CF (by simp [F14] <;> omega) ?_
        refine AW.skip ?_
        refine hK940 _ _ _ ?_
        refine SQ [] [none, none, none, none, none] fun _ _ g r => ?_
        try simp [F14]
        and_intros <;> first | exact g _ (by kernel_rfl) | refine r _ _ _ ?_ | omega | (simp [maxLen, F14] <;> omega)
        refine WK [(2, AV.ptr 0 0), (3, AV.ptr 1 0), (8, Iz v7), (9, AV.ptr 2 0), (10, AV.ptr 3 0), (95, AV.bool (!strEq v8.Digest v9.Digest))] [(0, .cells [Lz v0, AV.lst false false (List.map api_Pin.av v1)]), (1, .cells [Lz v2, AV.lst false false (List.map api_Pin.av v3)]), (2, .cells [Iz v8.Author, Iz v8.Height, AV.str v8.Digest]), (3, .cells [Iz v9.Author, Iz v9.Height, AV.str v9.Digest])] 4 (by simp [F14]) (by simp [F14]) ?_
        by_cases h16 : (!strEq v8.Digest v9.Digest) = true
        ·replace hF := ite_t h16 hF
         have h16_ := h16
         try simp at h16_
         have F15 := And.intro F14 (And.intro h16 h16_)
         refine CT (by simp [F15] <;> omega) ?_
         refine AW.seq fun K947 hK947 => ?_
         refine SQ [] [none, none, none, none, none] fun _ _ g r => ?_
         try simp [F15]
         and_intros <;> first | exact g _ (by kernel_rfl) | refine r _ _ _ ?_ | omega | (simp [maxLen, F15] <;> omega)
         refine WK [(100, AV.bool (strLt v8.Digest v9.Digest))] [] 4 (by simp [F15]) (by simp [F15]) ?_
         by_cases h17 : (strLt v8.Digest v9.Digest) = true
         ·replace hF := ite_t h17 hF
          have h17_ := h17
          try simp at h17_
          have F16 := And.intro F15 (And.intro h17 h17_)
          refine CT (by simp [F16] <;> omega) ?_
          refine SQ [] [none] fun _ _ g r => ?_
          try simp [F16]
          and_intros <;> first | exact g _ (by kernel_rfl) | refine r _ _ _ ?_ | omega | (simp [maxLen, F16] <;> omega)
          refine WK [(4, Iz (-1))] [] 4 (by simp [F16]) (by simp [F16]) ?_
          simp only [Option.some.injEq] at hF
          subst hF
          refine AW.ret (hQ _ _ _ ?_ (matchO_0 ?_)).1
          ·simp [Try.f19, F16]
          ·simp [F16]
         ·replace hF := ite_f h17 hF
          have h17_ := h17
          try simp at h17_
          have F17 := And.intro F15 (And.intro h17 h17_)
          refine CF (by simp [F17] <;> omega) ?_
          refine AW.skip ?_
          refine hK947 _ _ _ ?_
          refine SQ [] [none] fun _ _ g r => ?_
          try simp [F17]
          and_intros <;> first | exact g _ (by kernel_rfl) | refine r _ _ _ ?_ | omega | (simp [maxLen, F17] <;> omega)
          refine WK [(4, Iz 1)] [] 4 (by simp [F17]) (by simp [F17]) ?_
          simp only [Option.some.injEq] at hF
          subst hF
          refine AW.ret (hQ _ _ _ ?_ (matchO_0 ?_)).1
          ·simp [Try.f19, F17]
          ·simp [F17]
        ·replace hF := ite_f h16 hF
         have h16_ := h16
         try simp at h16_
         have F18 := And.intro F14 (And.intro h16 h16_)
         refine CF (by simp [F18] <;> omega) ?_
         refine AW.skip ?_
         refine hK928 _ _ _ ?_
         refine RG [] [none, none, none] fun _ _ g r => ?_
         try simp [F18]
         and_intros <;> first | exact g _ (by kernel_rfl) | refine r _ _ _ ?_ | omega | (simp [maxLen, F18] <;> omega)
         refine hK902 _ _ _ ?_
         refine RN h0 [(0, 0), (1, 1)] [(2, AV.ptr 0 0), (3, AV.ptr 1 0), (8, Iz (IntKind.wrap .i64 (v7 + 1)))] [(0, .cells [Lz v0, AV.lst false false (List.map api_Pin.av v1)]), (1, .cells [Lz v2, AV.lst false false (List.map api_Pin.av v3)])] 2 (by simp [F18]) (by simp [F18]) ?_
         exact NX (k' := n3) (IntKind.wrap .i64 (v7 + 1)) hF (by simp [F18]) (by simp [F18])
     ·replace hF := ite_f h5 hF
      have h5_ := h5
      try simp at h5_
      have F19 := And.intro F8 (And.intro h5 h5_)
      refine CF (by simp [F19] <;> omega) ?_
      refine AW.exit ?_
      try simp
      refine hK753 _ _ _ ?_
      exact JN (()) hF (by simp [F19]) (by simp [F19])
    ·replace hF := ite_f h4 hF
     have h4_ := h4
     try simp at h4_
     have F20 := And.intro F7 (And.intro h4 h4_)
     try simp [F20]
     and_intros <;> first | exact g _ (by kernel_rfl) | refine r _ _ _ ?_ | omega | (simp [maxLen, F20] <;> omega)
     refine WK [(2, AV.ptr 0 0), (3, AV.ptr 1 0), (8, Iz v7), (62, AV.bool false)] [(0, .cells [Lz v0, AV.lst false false (List.map api_Pin.av v1)]), (1, .cells [Lz v2, AV.lst false false (List.map api_Pin.av v3)])] 2 (by simp [F20]) (by simp [F20]) ?_
     refine CF (by simp [F20]) ?_
     refine AW.exit ?_
     try simp
     refine hK753 _ _ _ ?_
     exact JN (()) hF (by simp [F20]) (by simp [F20])
   ·rintro ⟨⟩ hF
    try dsimp only at hF
    unfold ref23_Order.J2 at hF
    refine SQ [] [none, none, none, none, none, none, none, none] fun _ _ g r => ?_
    try simp [F7]
    and_intros
    try any_goals first | omega | (simp [maxLen, F7] <;> omega)
    obtain ⟨v6, h3, hF⟩ := bnd1_elim hF
    refine AC (w_ref23_cmp k _ _ _ h3) (.cons (.same (by simp [F7])) (.cons (.same (by simp [F7])) .nil)) ?_
    try simp [F7]
    and_intros <;> first | exact g _ (by kernel_rfl) | refine r _ _ _ ?_ | omega | (simp [maxLen, F7] <;> omega)
    refine WK [(4, Iz v6)] [] 2 (by simp [F7]) (by simp [F7]) ?_
    simp only [Option.some.injEq] at hF
    subst hF
    refine AW.ret (hQ _ _ _ ?_ (matchO_0 ?_)).1
    ·simp [Try.f19, F7]
    ·simp [F7]
theorem w_ref23_SameDraft (k : Nat) (v0 : Int) (v1 : Int) (v2 : Int) (v3 : Int) (v4 : (List Int)) (v5 : (List api_Pin)) (v6 : Int) (v7 : Int) (v8 : Int) (v9 : Int) (v10 : (List Int)) (v11 : (List api_Pin)) (v12 : Bool) (hF : ref23_SameDraft k v0 v1 v2 v3 v4 v5 v6 v7 v8 v9 v10 v11 = some v12) :
  FCall Try.prog 23 [AV.agg [AV.int .i64 v0, AV.int .i64 v1, AV.int .i64 v2, AV.int .i64 v3, AV.lst false false (List.map (AV.int .i64) v4), AV.lst false false (List.map api_Pin.av v5)], AV.agg [AV.int .i64 v6, AV.int .i64 v7, AV.int .i64 v8, AV.int .i64 v9, AV.lst false false (List.map (AV.int .i64) v10), AV.lst false false (List.map api_Pin.av v11)]] [] (AV.bool v12) [] := by
 unfold ref23_SameDraft at hF
 refine EN Try.func23 ?_
 intro c0 w0 Q h0 hQ
 refine WK [(0, AV.agg [Iz v0, Iz v1, Iz v2, Iz v3, Lz v4, AV.lst false false (List.map api_Pin.av v5)]), (1, AV.agg [Iz v6, Iz v7, Iz v8, Iz v9, Lz v10, AV.lst false false (List.map api_Pin.av v11)])] [] 0 (by simp) (by simp) ?_
 refine SQ [] [none, none, none] fun _ _ g r => ?_
 try simp
 and_intros <;> first | exact g _ (by kernel_rfl) | refine r _ _ _ ?_ | omega | (simp [maxLen] <;> omega)
 refine WK [(2, AV.ptr 0 0), (3, AV.ptr 1 0)] [(0, .cells [Iz v0, Iz v1, Iz v2, Iz v3, Lz v4, AV.lst false false (List.map api_Pin.av v5)]), (1, .cells [Iz v6, Iz v7, Iz v8, Iz v9, Lz v10, AV.lst false false (List.map api_Pin.av v11)])] 2 (by simp) (by simp) ?_
 refine SQ [] [none, none, none, none, none, none, some (10, true), some (10, true), some (10, true), some (10, true), some (10, true), none, none, some (17, true), some (17, true), some (17, true), some (17, true), some (17, true), none, none, some (24, true), some (24, true), some (24, true), some (24, true), some (24, true), none, none, some (31, true), some (31, true), some (31, true), some (31, true), some (31, true), some (31, true), some (31, true), some (31, true), some (31, true), some (31, true), some (31, true), some (31, true), none, none] fun _ _ g r => ?_
 by_cases h1 : v0 = v6
 ·replace hF := ite_t h1 hF
  have h1q : v0 = v6 := h1
  have h1_ := eqb_t h1q
  have h1__ := neb_f h1q
  by_cases h2 : v1 = v7
  ·replace hF := ite_t h2 hF
   have h2q : v1 = v7 := h2
   have h2_ := eqb_t h2q
   have h2__ := neb_f h2q
   by_cases h3 : v2 = v8
   ·replace hF := ite_t h3 hF
    have h3q : v2 = v8 := h3
    have h3_ := eqb_t h3q
    have h3__ := neb_f h3q
    by_cases h4 : v3 = v9
    ·replace hF := ite_t h4 hF
     have h4q : v3 = v9 := h4
     have h4_ := eqb_t h4q
     have h4__ := neb_f h4q
     have F1 := And.intro h1_ (And.intro h1__ (And.intro h2_ (And.intro h2__ (And.intro h3_ (And.intro h3__ (And.intro h4_ h4__))))))
     try simp [F1]
     and_intros
     try any_goals first | omega | (simp [maxLen, F1] <;> omega)
     obtain ⟨v13, h5, hF⟩ := bnd1_elim hF
     refine AC (w_ref23_Order k _ _ _ _ _ h5) (.cons (.same (by simp [F1])) (.cons (.same (by simp [F1])) .nil)) ?_
     try simp [F1]
     and_intros <;> first | exact g _ (by kernel_rfl) | refine r _ _ _ ?_ | omega | (simp [maxLen, F1] <;> omega)
     refine WK [(4, AV.bool (v13 == 0))] [] 2 (by simp [F1]) (by simp [F1]) ?_
     simp only [Option.some.injEq] at hF
     subst hF
     refine AW.ret (hQ _ _ _ ?_ (matchO_0 ?_)).1
     ·simp [Try.f23, F1]
     ·simp [F1]
    ·replace hF := ite_f h4 hF
     have h4_ := eqb_f h4
     have h4__ := neb_t h4
     have F2 := And.intro h1_ (And.intro h1__ (And.intro h2_ (And.intro h2__ (And.intro h3_ (And.intro h3__ (And.intro h4 (And.intro h4_ h4__)))))))
     try simp [F2]
     and_intros <;> first | exact g _ (by kernel_rfl) | refine r _ _ _ ?_ | omega | (simp [maxLen, F2] <;> omega)
     refine WK [(4, AV.bool false)] [] 2 (by simp [F2]) (by simp [F2]) ?_
     simp only [Option.some.injEq] at hF
     subst hF
     refine AW.ret (hQ _ _ _ ?_ (matchO_0 ?_)).1
     ·simp [Try.f23, F2]
     ·simp [F2]
   ·replace hF := ite_f h3 hF
    have h3_ := eqb_f h3
    have h3__ := neb_t h3
    have F3 := And.intro h1_ (And.intro h1__ (And.intro h2_ (And.intro h2__ (And.intro h3 (And.intro h3_ h3__)))))
    try simp [F3]
    and_intros <;> first | exact g _ (by kernel_rfl) | refine r _ _ _ ?_ | omega | (simp [maxLen, F3] <;> omega)
    refine WK [(4, AV.bool false)] [] 2 (by simp [F3]) (by simp [F3]) ?_
    simp only [Option.some.injEq] at hF
    subst hF
    refine AW.ret (hQ _ _ _ ?_ (matchO_0 ?_)).1
    ·simp [Try.f23, F3]
    ·simp [F3]
  ·replace hF := ite_f h2 hF
   have h2_ := eqb_f h2
   have h2__ := neb_t h2
   have F4 := And.intro h1_ (And.intro h1__ (And.intro h2 (And.intro h2_ h2__)))
   try simp [F4]
   and_intros <;> first | exact g _ (by kernel_rfl) | refine r _ _ _ ?_ | omega | (simp [maxLen, F4] <;> omega)
   refine WK [(4, AV.bool false)] [] 2 (by simp [F4]) (by simp [F4]) ?_
   simp only [Option.some.injEq] at hF
   subst hF
   refine AW.ret (hQ _ _ _ ?_ (matchO_0 ?_)).1
   ·simp [Try.f23, F4]
   ·simp [F4]
 ·replace hF := ite_f h1 hF
  have h1_ := eqb_f h1
  have h1__ := neb_t h1
  have F5 := And.intro h1 (And.intro h1_ h1__)
  try simp [F5]
  and_intros <;> first | exact g _ (by kernel_rfl) | refine r _ _ _ ?_ | omega | (simp [maxLen, F5] <;> omega)
  refine WK [(4, AV.bool false)] [] 2 (by simp [F5]) (by simp [F5]) ?_
  simp only [Option.some.injEq] at hF
  subst hF
  refine AW.ret (hQ _ _ _ ?_ (matchO_0 ?_)).1
  ·simp [Try.f23, F5]
  ·simp [F5]
theorem w_cmp_isNaN_int (k : Nat) (v0 : Int) (v1 : Bool) (hF : cmp_isNaN_int k v0 = some v1) :
  FCall Try.prog 61 [AV.int .i64 v0] [] (AV.bool v1) [] := by
 unfold cmp_isNaN_int at hF
 refine EN Try.func61 ?_
 intro c0 w0 Q h0 hQ
 refine WK [(0, Iz v0)] [] 0 (by simp) (by simp) ?_
 refine SQ [] [none] fun _ _ g r => ?_
 try simp
 and_intros <;> first | exact g _ (by kernel_rfl) | refine r _ _ _ ?_ | omega | (simp [maxLen] <;> omega)
 refine WK [(0, Iz v0)] [] 0 (by simp) (by simp) ?_
 refine SQ [] [none, none, none, none] fun _ _ g r => ?_
 try simp
 and_intros <;> first | exact g _ (by kernel_rfl) | refine r _ _ _ ?_ | omega | (simp [maxLen] <;> omega)
 refine WK [(2, AV.bool (v0 != v0))] [] 0 (by simp) (by simp) ?_
 simp only [Option.some.injEq] at hF
 subst hF
 refine AW.ret (hQ _ _ _ ?_ (matchO_0 ?_)).1
 ·simp [Try.f61]
 ·simp
theorem w_cmp_Compare_int (k : Nat) (v0 : Int) (v1 : Int) (v2 : Int) (hF : cmp_Compare_int k v0 v1 = some v2) :
  FCall Try.prog 46 [AV.int .i64 v0, AV.int .i64 v1] [] (AV.int .i64 v2) [] := by
 unfold cmp_Compare_int at hF
 refine EN Try.func46 ?_
 intro c0 w0 Q h0 hQ
 refine WK [(0, Iz v0), (1, Iz v1)] [] 0 (by simp) (by simp) ?_
 refine SQ [] [none] fun _ _ g r => ?_
 try simp
 and_intros <;> first | exact g _ (by kernel_rfl) | refine r _ _ _ ?_ | omega | (simp [maxLen] <;> omega)
 refine WK [(0, Iz v0), (1, Iz v1)] [] 0 (by simp) (by simp) ?_
 refine SQ [] [none, none, none] fun _ _ g r => ?_
 try simp
 and_intros
 try any_goals first | omega | (simp [maxLen] <;> omega)
 obtain ⟨v3, h1, hF⟩ := bnd1_elim hF
 refine AC (w_cmp_isNaN_int k _ _ h1) (.cons (.same (by simp)) .nil) ?_
 try simp
 and_intros <;> first | exact g _ (by kernel_rfl) | refine r _ _ _ ?_ | omega | (simp [maxLen] <;> omega)
 refine WK [(0, Iz v0), (1, Iz v1), (5, AV.bool v3)] [] 0 (by simp) (by simp) ?_
 refine SQ [] [none, none, none] fun _ _ g r => ?_
 try simp
 and_intros
 try any_goals first | omega | (simp [maxLen] <;> omega)
 obtain ⟨v4, h2, hF⟩ := bnd1_elim hF
 refine AC (w_cmp_isNaN_int k _ _ h2) (.cons (.same (by simp)) .nil) ?_
 try simp
 and_intros <;> first | exact g _ (by kernel_rfl) | refine r _ _ _ ?_ | omega | (simp [maxLen] <;> omega)
 refine WK [(0, Iz v0), (1, Iz v1), (5, AV.bool v3), (6, AV.bool v4)] [] 0 (by simp) (by simp) ?_
 refine AW.seq fun K45 hK45 => ?_
 refine SQ [] [none] fun _ _ g r => ?_
 try simp
 and_intros <;> first | exact g _ (by kernel_rfl) | refine r _ _ _ ?_ | omega | (simp [maxLen] <;> omega)
 refine WK [(0, Iz v0), (1, Iz v1), (6, AV.bool v4), (11, AV.bool v3)] [] 0 (by simp) (by simp) ?_
 by_cases h3 : v3 = true
 ·replace hF := ite_t h3 hF
  have h3_ := h3
  try simp at h3_
  refine CT (by simp [h3, h3_] <;> omega) ?_
  refine AW.seq fun K49 hK49 => ?_
  refine SQ [] [none] fun _ _ g r => ?_
  try simp [h3, h3_]
  and_intros <;> first | exact g _ (by kernel_rfl) | refine r _ _ _ ?_ | omega | (simp [h3, h3_, maxLen] <;> omega)
  refine WK [(12, AV.bool v4)] [] 0 (by simp [h3, h3_]) (by simp [h3, h3_]) ?_
  by_cases h4 : v4 = true
  ·replace hF := ite_t h4 hF
   have h4_ := h4
   try simp at h4_
   have F1 := And.intro h3 (And.intro h3_ (And.intro h4 h4_))
   refine CT (by simp [F1] <;> omega) ?_
   refine SQ [] [none] fun _ _ g r => ?_
   try simp [F1]
   and_intros <;> first | exact g _ (by kernel_rfl) | refine r _ _ _ ?_ | omega | (simp [maxLen, F1] <;> omega)
   refine WK [(4, Iz 0)] [] 0 (by simp [F1]) (by simp [F1]) ?_
   simp only [Option.some.injEq] at hF
   subst hF
   refine AW.ret (hQ _ _ _ ?_ (matchO_0 ?_)).1
   ·simp [Try.f46, F1]
   ·simp [F1]
  ·replace hF := ite_f h4 hF
   have h4_ := h4
   try simp at h4_
   have F2 := And.intro h3 (And.intro h3_ (And.intro h4 h4_))
   refine CF (by simp [F2] <;> omega) ?_
   refine AW.skip ?_
   refine hK49 _ _ _ ?_
   refine SQ [] [none] fun _ _ g r => ?_
   try simp [F2]
   and_intros <;> first | exact g _ (by kernel_rfl) | refine r _ _ _ ?_ | omega | (simp [maxLen, F2] <;> omega)
   refine WK [(4, Iz (-1))] [] 0 (by simp [F2]) (by simp [F2]) ?_
   simp only [Option.some.injEq] at hF
   subst hF
   refine AW.ret (hQ _ _ _ ?_ (matchO_0 ?_)).1
   ·simp [Try.f46, F2]
   ·simp [F2]
 ·replace hF := ite_f h3 hF
  have h3_ := h3
  try simp at h3_
  refine CF (by simp [h3, h3_] <;> omega) ?_
  refine AW.skip ?_
  refine hK45 _ _ _ ?_
  refine AW.seq fun K55 hK55 => ?_
  refine SQ [] [none] fun _ _ g r => ?_
  try simp [h3, h3_]
  and_intros <;> first | exact g _ (by kernel_rfl) | refine r _ _ _ ?_ | omega | (simp [h3, h3_, maxLen] <;> omega)
  refine WK [(0, Iz v0), (1, Iz v1), (13, AV.bool v4)] [] 0 (by simp [h3, h3_]) (by simp [h3, h3_]) ?_
  by_cases h5 : v4 = true
  ·replace hF := ite_t h5 hF
   have h5_ := h5
   try simp at h5_
   have F3 := And.intro h3 (And.intro h3_ (And.intro h5 h5_))
   refine CT (by simp [F3] <;> omega) ?_
   refine SQ [] [none] fun _ _ g r => ?_
   try simp [F3]
   and_intros <;> first | exact g _ (by kernel_rfl) | refine r _ _ _ ?_ | omega | (simp [maxLen, F3] <;> omega)
   refine WK [(4, Iz 1)] [] 0 (by simp [F3]) (by simp [F3]) ?_
   simp only [Option.some.injEq] at hF
   subst hF
   refine AW.ret (hQ _ _ _ ?_ (matchO_0 ?_)).1
   ·simp [Try.f46, F3]
   ·simp [F3]
  ·replace hF := ite_f h5 hF
   have h5_ := h5
   try simp at h5_
   have F4 := And.intro h3 (And.intro h3_ (And.intro h5 h5_))
   refine CF (by simp [F4] <;> omega) ?_
   refine AW.skip ?_
   refine hK55 _ _ _ ?_
   refine AW.seq fun K60 hK60 => ?_
   refine SQ [] [none, none, none] fun _ _ g r => ?_
   try simp [F4]
   and_intros <;> first | exact g _ (by kernel_rfl) | refine r _ _ _ ?_ | omega | (simp [maxLen, F4] <;> omega)
   refine WK [(0, Iz v0), (1, Iz v1), (16, AV.bool (decide (v0 < v1)))] [] 0 (by simp [F4]) (by simp [F4]) ?_
   by_cases h6 : v0 < v1
   ·replace hF := ite_t h6 hF
    have h6_ := h6
    try simp at h6_
    have F5 := And.intro F4 (And.intro h6 h6_)
    refine CT (by simp [F5] <;> omega) ?_
    refine SQ [] [none] fun _ _ g r => ?_
    try simp [F5]
    and_intros <;> first | exact g _ (by kernel_rfl) | refine r _ _ _ ?_ | omega | (simp [maxLen, F5] <;> omega)
    refine WK [(4, Iz (-1))] [] 0 (by simp [F5]) (by simp [F5]) ?_
    simp only [Option.some.injEq] at hF
    subst hF
    refine AW.ret (hQ _ _ _ ?_ (matchO_0 ?_)).1
    ·simp [Try.f46, F5]
    ·simp [F5]
   ·replace hF := ite_f h6 hF
    have h6_ := h6
    try simp at h6_
    have F6 := And.intro F4 (And.intro h6 h6_)
    refine CF (by simp [F6] <;> omega) ?_
    refine AW.skip ?_
    refine hK60 _ _ _ ?_
    refine AW.seq fun K65 hK65 => ?_
    refine SQ [] [none, none, none] fun _ _ g r => ?_
    try simp [F6]
    and_intros <;> first | exact g _ (by kernel_rfl) | refine r _ _ _ ?_ | omega | (simp [maxLen, F6] <;> omega)
    refine WK [(19, AV.bool (decide (v1 < v0)))] [] 0 (by simp [F6]) (by simp [F6]) ?_
    by_cases h7 : v1 < v0
    ·replace hF := ite_t h7 hF
     have h7_ := h7
     try simp at h7_
     have F7 := And.intro F6 (And.intro h7 h7_)
     refine CT (by simp [F7] <;> omega) ?_
     refine SQ [] [none] fun _ _ g r => ?_
     try simp [F7]
     and_intros <;> first | exact g _ (by kernel_rfl) | refine r _ _ _ ?_ | omega | (simp [maxLen, F7] <;> omega)
     refine WK [(4, Iz 1)] [] 0 (by simp [F7]) (by simp [F7]) ?_
     simp only [Option.some.injEq] at hF
     subst hF
     refine AW.ret (hQ _ _ _ ?_ (matchO_0 ?_)).1
     ·simp [Try.f46, F7]
     ·simp [F7]
    ·replace hF := ite_f h7 hF
     have h7_ := h7
     try simp at h7_
     have F8 := And.intro F6 (And.intro h7 h7_)
     refine CF (by simp [F8] <;> omega) ?_
     refine AW.skip ?_
     refine hK65 _ _ _ ?_
     refine SQ [] [none] fun _ _ g r => ?_
     try simp [F8]
     and_intros <;> first | exact g _ (by kernel_rfl) | refine r _ _ _ ?_ | omega | (simp [maxLen, F8] <;> omega)
     refine WK [(4, Iz 0)] [] 0 (by simp [F8]) (by simp [F8]) ?_
     simp only [Option.some.injEq] at hF
     subst hF
     refine AW.ret (hQ _ _ _ ?_ (matchO_0 ?_)).1
     ·simp [Try.f46, F8]
     ·simp [F8]
theorem w_cases_order_int_Compare_int (k : Nat) (v0 : (List Int)) (v1 : (List Int)) (v2 : Int) (hF : cases_order_int_Compare_int k v0 v1 = some v2) :
  FCall Try.prog 45 [AV.lst false false (List.map (AV.int .i64) v0), AV.lst false false (List.map (AV.int .i64) v1), AV.fn 46 []] [] (AV.int .i64 v2) [] := by
 unfold cases_order_int_Compare_int at hF
 refine EN Try.func45 ?_
 intro c0 w0 Q h0 hQ
 refine WK [(0, Lz v0), (1, Lz v1), (2, AV.fn 46 [])] [] 0 (by simp) (by simp) ?_
 refine SQ [] [none] fun _ _ g r => ?_
 try simp
 and_intros <;> first | exact g _ (by kernel_rfl) | refine r _ _ _ ?_ | omega | (simp [maxLen] <;> omega)
 refine WK [(0, Lz v0), (1, Lz v1), (2, AV.fn 46 [])] [] 0 (by simp) (by simp) ?_
 refine AW.seq fun K155 hK155 => ?_
 refine SQ [] [none, none, none, none, none, none] fun _ _ g r => ?_
 obtain ⟨v3, h1, hF⟩ := let1_elim hF
 have h1_ := h1
 try simp at h1_
 try simp [h1, h1_]
 and_intros <;> first | exact g _ (by kernel_rfl) | refine r _ _ _ ?_ | omega | (simp [h1, h1_, maxLen] <;> omega)
 refine WK [(0, Lz v0), (1, Lz v1), (2, AV.fn 46 []), (13, Iz v3), (14, Iz 0)] [] 0 (by simp [h1, h1_]) (by simp [h1, h1_]) ?_
 refine AW.block ?_
 refine AW.loopF (α := Int) (fun n v4 => cases_order_int_Compare_int.L1 k v0 v1 v3 n v4 = some v2) (fun v4 => [(0, Lz v0), (1, Lz v1), (2, AV.fn 46 []), (13, Iz v3), (14, Iz v4)]) (fun v4 => []) 0 k (0) hF (by simp [h1, h1_]) (by simp [h1, h1_]) (by simp) ?_
 rintro (_|n1) v4 hF K193 hK193
 ·try dsimp only at hF
  rw [cases_order_int_Compare_int.L1] at hF; cases hF
 try dsimp only at hF
 rw [cases_order_int_Compare_int.L1] at hF
 refine SQ [] [none] fun _ _ g r => ?_
 try simp [h1, h1_]
 and_intros <;> first | exact g _ (by kernel_rfl) | refine r _ _ _ ?_ | omega | (simp [h1, h1_, maxLen] <;> omega)
 refine WK [(0, Lz v0), (1, Lz v1), (2, AV.fn 46 []), (13, Iz v3), (14, Iz v4), (15, AV.bool (decide (v4 < v3)))] [] 0 (by simp [h1, h1_]) (by simp [h1, h1_]) ?_
 refine AW.seq fun K195 hK195 => ?_
 by_cases h2 : v4 < v3
 ·replace hF := ite_t h2 hF
  have h2_ := h2
  try simp at h2_
  have F1 := And.intro h1 (And.intro h1_ (And.intro h2 h2_))
  refine CT (by simp [F1] <;> omega) ?_
  refine AW.skip ?_
  refine hK195 _ _ _ ?_
  refine AW.seq fun K200 hK200 => ?_
  refine AW.block ?_
  refine SQ [] [none, none] fun _ _ g r => ?_
  try simp [F1]
  and_intros <;> first | exact g _ (by kernel_rfl) | refine r _ _ _ ?_ | omega | (simp [maxLen, F1] <;> omega)
  refine WK [(0, Lz v0), (1, Lz v1), (2, AV.fn 46 []), (7, Iz v4), (13, Iz v3), (14, Iz v4)] [] 0 (by simp [F1]) (by simp [F1]) ?_
  refine SQ [] [none, none, none, none, none, none, none, none, none, none, none] fun _ _ g r => ?_
  obtain ⟨v5, h3, h4, h5, hF⟩ := idx_elim hF
  have h5_ := get_of h5
  try simp at h5_
  have h4_ := h4
  try simp at h4_
  obtain ⟨v6, h6, h7, h8, hF⟩ := idx_elim hF
  have h8_ := get_of h8
  try simp at h8_
  have h7_ := h7
  try simp at h7_
  have F2 := And.intro F1 (And.intro h3 (And.intro h4 (And.intro h5 (And.intro h5_ (And.intro h4_ (And.intro h6 (And.intro h7 (And.intro h8 (And.intro h8_ h7_)))))))))
  try simp [F2]
  and_intros
  try any_goals first | omega | (simp [maxLen, F2] <;> omega)
  obtain ⟨v7, h9, hF⟩ := bnd1_elim hF
  refine AC (w_cmp_Compare_int k _ _ _ h9) (.cons (.same (by simp [F2])) (.cons (.same (by simp [F2])) .nil)) ?_
  try simp [F2]
  and_intros <;> first | exact g _ (by kernel_rfl) | refine r _ _ _ ?_ | omega | (simp [maxLen, F2] <;> omega)
  refine WK [(0, Lz v0), (1, Lz v1), (2, AV.fn 46 []), (8, Iz v7), (13, Iz v3), (14, Iz v4)] [] 0 (by simp [F2]) (by simp [F2]) ?_
  refine SQ [] [none, none] fun _ _ g r => ?_
  try simp [F2]
  and_intros <;> first | exact g _ (by kernel_rfl) | refine r _ _ _ ?_ | omega | (simp [maxLen, F2] <;> omega)
  refine WK [(0, Lz v0), (1, Lz v1), (2, AV.fn 46 []), (8, Iz v7), (13, Iz v3), (14, Iz v4), (28, AV.bool (v7 != 0))] [] 0 (by simp [F2]) (by simp [F2]) ?_
  by_cases h10 : v7 ≠ 0
  ·replace hF := ite_t h10 hF
   have h10_ := eqb_f h10
   have h10__ := neb_t h10
   have F3 := And.intro F2 (And.intro h10 (And.intro h10_ h10__))
   refine CT (by simp [F3] <;> omega) ?_
   refine SQ [] [none, none] fun _ _ g r => ?_
   try simp [F3]
   and_intros <;> first | exact g _ (by kernel_rfl) | refine r _ _ _ ?_ | omega | (simp [maxLen, F3] <;> omega)
   refine WK [(6, Iz v7)] [] 0 (by simp [F3]) (by simp [F3]) ?_
   simp only [Option.some.injEq] at hF
   subst hF
   refine AW.ret (hQ _ _ _ ?_ (matchO_0 ?_)).1
   ·simp [Try.f45, F3]
   ·simp [F3]
  ·replace hF := ite_f h10 hF
   have h10q : v7 = 0 := Classical.not_not.1 h10
   have h10_ := eqb_t h10q
   have h10__ := neb_f h10q
   have F4 := And.intro F2 (And.intro h10_ (And.intro h10__ h10q))
   refine CF (by simp [F4] <;> omega) ?_
   refine AW.skip ?_
   refine hK200 _ _ _ ?_
   refine RG [] [none, none] fun _ _ g r => ?_
   try simp [F4]
   and_intros <;> first | exact g _ (by kernel_rfl) | refine r _ _ _ ?_ | omega | (simp [maxLen, F4] <;> omega)
   refine hK193 _ _ _ ?_
   exact NX (k' := n1) (IntKind.wrap .i64 (v4 + 1)) hF (by simp [F4]) (by simp [F4])
 ·replace hF := ite_f h2 hF
  have h2_ := h2
  try simp at h2_
  have F5 := And.intro h1 (And.intro h1_ (And.intro h2 h2_))
  refine CF (by simp [F5] <;> omega) ?_
  refine AW.exit ?_
  try simp
  refine hK155 _ _ _ ?_
  refine SQ [] [none, none, none, none, none, none] fun _ _ g r => ?_
  try simp [F5]
  and_intros
  try any_goals first | omega | (simp [maxLen, F5] <;> omega)
  obtain ⟨v8, h11, hF⟩ := bnd1_elim hF
  refine AC (w_cmp_Compare_int k _ _ _ h11) (.cons (.same (by simp [F5])) (.cons (.same (by simp [F5])) .nil)) ?_
  try simp [F5]
  and_intros <;> first | exact g _ (by kernel_rfl) | refine r _ _ _ ?_ | omega | (simp [maxLen, F5] <;> omega)
  refine WK [(6, Iz v8)] [] 0 (by simp [F5]) (by simp [F5]) ?_
  simp only [Option.some.injEq] at hF
  subst hF
  refine AW.ret (hQ _ _ _ ?_ (matchO_0 ?_)).1
  ·simp [Try.f45, F5]
  ·simp [F5]
theorem w_internal_bytealg_CompareString (k : Nat) (v0 : ByteArray) (v1 : ByteArray) (v2 : Int) (hF : internal_bytealg_CompareString k v0 v1 = some v2) :
  FCall Try.prog 67 [AV.str v0, AV.str v1] [] (AV.int .i64 v2) [] := by
 unfold internal_bytealg_CompareString at hF
 refine EN Try.func67 ?_
 intro c0 w0 Q h0 hQ
 refine WK [(0, AV.str v0), (1, AV.str v1)] [] 0 (by simp) (by simp) ?_
 refine SQ [] [none] fun _ _ g r => ?_
 try simp
 and_intros <;> first | exact g _ (by kernel_rfl) | refine r _ _ _ ?_ | omega | (simp [maxLen] <;> omega)
 refine WK [(0, AV.str v0), (1, AV.str v1)] [] 0 (by simp) (by simp) ?_
 refine SQ [] [none, none, none, none] fun _ _ g r => ?_
 try simp
 and_intros
 try any_goals first | omega | (simp [maxLen] <;> omega)
 refine aCall_cmp xcmp ?_
 try simp
 and_intros <;> first | exact g _ (by kernel_rfl) | refine r _ _ _ ?_ | omega | (simp [maxLen] <;> omega)
 refine WK [(4, Iz (Go.Extern.BytealgCompare.cmp v0 v1))] [] 0 (by simp) (by simp) ?_
 simp only [Option.some.injEq] at hF
 subst hF
 refine AW.ret (hQ _ _ _ ?_ (matchO_0 ?_)).1
 ·simp [Try.f67]
 ·simp
theorem w_strings_Compare (k : Nat) (v0 : ByteArray) (v1 : ByteArray) (v2 : Int) (hF : strings_Compare k v0 v1 = some v2) :
  FCall Try.prog 62 [AV.str v0, AV.str v1] [] (AV.int .i64 v2) [] := by
 unfold strings_Compare at hF
 refine EN Try.func62 ?_
 intro c0 w0 Q h0 hQ
 refine WK [(0, AV.str v0), (1, AV.str v1)] [] 0 (by simp) (by simp) ?_
 refine SQ [] [none] fun _ _ g r => ?_
 try simp
 and_intros <;> first | exact g _ (by kernel_rfl) | refine r _ _ _ ?_ | omega | (simp [maxLen] <;> omega)
 refine WK [(0, AV.str v0), (1, AV.str v1)] [] 0 (by simp) (by simp) ?_
 refine SQ [] [none, none, none, none] fun _ _ g r => ?_
 try simp
 and_intros
 try any_goals first | omega | (simp [maxLen] <;> omega)
 obtain ⟨v3, h1, hF⟩ := bnd1_elim hF
 refine AC (w_internal_bytealg_CompareString k _ _ _ h1) (.cons (.same (by simp)) (.cons (.same (by simp)) .nil)) ?_
 try simp
 and_intros <;> first | exact g _ (by kernel_rfl) | refine r _ _ _ ?_ | omega | (simp [maxLen] <;> omega)
 refine WK [(4, Iz v3)] [] 0 (by simp) (by simp) ?_
 simp only [Option.some.injEq] at hF
 subst hF
 refine AW.ret (hQ _ _ _ ?_ (matchO_0 ?_)).1
 ·simp [Try.f62]
 ·simp
theorem w_cmp_Or_int (k : Nat) (v0 : (List Int)) (v1 : Int) (hF : cmp_Or_int k v0 = some v1) :
  FCall Try.prog 44 [AV.lst false false (List.map (AV.int .i64) v0)] [] (AV.int .i64 v1) [] := by
 unfold cmp_Or_int at hF
 refine EN Try.func44 ?_
 intro c0 w0 Q h0 hQ
 refine WK [(0, Lz v0)] [] 0 (by simp) (by simp) ?_
 refine SQ [] [none] fun _ _ g r => ?_
 try simp
 and_intros <;> first | exact g _ (by kernel_rfl) | refine r _ _ _ ?_ | omega | (simp [maxLen] <;> omega)
 refine WK [(0, Lz v0)] [] 0 (by simp) (by simp) ?_
 refine SQ [] [none] fun _ _ g r => ?_
 try simp
 and_intros <;> first | exact g _ (by kernel_rfl) | refine r _ _ _ ?_ | omega | (simp [maxLen] <;> omega)
 refine WK [(0, Lz v0), (3, Iz 0)] [] 0 (by simp) (by simp) ?_
 refine AW.seq fun K133 hK133 => ?_
 refine SQ [] [none, none, none] fun _ _ g r => ?_
 try simp
 and_intros <;> first | exact g _ (by kernel_rfl) | refine r _ _ _ ?_ | omega | (simp [maxLen] <;> omega)
 refine WK [(3, Iz 0), (6, Lz v0), (7, Iz (v0.length : Int)), (8, Iz 0)] [] 0 (by simp) (by simp) ?_
 refine AW.block ?_
 refine AW.loopF (α := Int) (fun n v2 => cmp_Or_int.L1 k v0 n v2 = some v1) (fun v2 => [(3, Iz 0), (6, Lz v0), (7, Iz (v0.length : Int)), (8, Iz v2)]) (fun v2 => []) 0 k (0) hF (by simp) (by simp) (by simp) ?_
 rintro (_|n1) v2 hF K165 hK165
 ·try dsimp only at hF
  rw [cmp_Or_int.L1] at hF; cases hF
 try dsimp only at hF
 rw [cmp_Or_int.L1] at hF
 refine SQ [] [none] fun _ _ g r => ?_
 try simp
 and_intros <;> first | exact g _ (by kernel_rfl) | refine r _ _ _ ?_ | omega | (simp [maxLen] <;> omega)
 refine WK [(3, Iz 0), (6, Lz v0), (7, Iz (v0.length : Int)), (8, Iz v2), (9, AV.bool (decide (v2 < (v0.length : Int))))] [] 0 (by simp) (by simp) ?_
 refine AW.seq fun K167 hK167 => ?_
 by_cases h1 : v2 < (v0.length : Int)
 ·replace hF := ite_t h1 hF
  have h1_ := h1
  try simp at h1_
  refine CT (by simp [h1, h1_] <;> omega) ?_
  refine AW.skip ?_
  refine hK167 _ _ _ ?_
  refine AW.seq fun K171 hK171 => ?_
  refine AW.block ?_
  refine SQ [] [none, none, none] fun _ _ g r => ?_
  obtain ⟨v3, h2, h3, h4, hF⟩ := idx_elim hF
  have h4_ := get_of h4
  try simp at h4_
  have h3_ := h3
  try simp at h3_
  have F1 := And.intro h1 (And.intro h1_ (And.intro h2 (And.intro h3 (And.intro h4 (And.intro h4_ h3_)))))
  try simp [F1]
  and_intros <;> first | exact g _ (by kernel_rfl) | refine r _ _ _ ?_ | omega | (simp [maxLen, F1] <;> omega)
  refine WK [(3, Iz 0), (5, Iz v3), (6, Lz v0), (7, Iz (v0.length : Int)), (8, Iz v2)] [] 0 (by simp [F1]) (by simp [F1]) ?_
  refine SQ [] [none, none, none] fun _ _ g r => ?_
  try simp [F1]
  and_intros <;> first | exact g _ (by kernel_rfl) | refine r _ _ _ ?_ | omega | (simp [maxLen, F1] <;> omega)
  refine WK [(3, Iz 0), (5, Iz v3), (6, Lz v0), (7, Iz (v0.length : Int)), (8, Iz v2), (14, AV.bool (v3 != 0))] [] 0 (by simp [F1]) (by simp [F1]) ?_
  by_cases h5 : v3 ≠ 0
  ·replace hF := ite_t h5 hF
   have h5_ := eqb_f h5
   have h5__ := neb_t h5
   have F2 := And.intro F1 (And.intro h5 (And.intro h5_ h5__))
   refine CT (by simp [F2] <;> omega) ?_
   refine SQ [] [none, none] fun _ _ g r => ?_
   try simp [F2]
   and_intros <;> first | exact g _ (by kernel_rfl) | refine r _ _ _ ?_ | omega | (simp [maxLen, F2] <;> omega)
   refine WK [(2, Iz v3)] [] 0 (by simp [F2]) (by simp [F2]) ?_
   simp only [Option.some.injEq] at hF
   subst hF
   refine AW.ret (hQ _ _ _ ?_ (matchO_0 ?_)).1
   ·simp [Try.f44, F2]
   ·simp [F2]
  ·replace hF := ite_f h5 hF
   have h5q : v3 = 0 := Classical.not_not.1 h5
   have h5_ := eqb_t h5q
   have h5__ := neb_f h5q
   have F3 := And.intro F1 (And.intro h5_ (And.intro h5__ h5q))
   refine CF (by simp [F3] <;> omega) ?_
   refine AW.skip ?_
   refine hK171 _ _ _ ?_
   refine RG [] [none, none] fun _ _ g r => ?_
   try simp [F3]
   and_intros <;> first | exact g _ (by kernel_rfl) | refine r _ _ _ ?_ | omega | (simp [maxLen, F3] <;> omega)
   refine hK165 _ _ _ ?_
   exact NX (k' := n1) (IntKind.wrap .i64 (v2 + 1)) hF (by simp [F3]) (by simp [F3])
 ·replace hF := ite_f h1 hF
  have h1_ := h1
  try simp at h1_
  refine CF (by simp [h1, h1_] <;> omega) ?_
  refine AW.exit ?_
  try simp
  refine hK133 _ _ _ ?_
  refine SQ [] [none, none] fun _ _ g r => ?_
  try simp [h1, h1_]
  and_intros <;> first | exact g _ (by kernel_rfl) | refine r _ _ _ ?_ | omega | (simp [h1, h1_, maxLen] <;> omega)
  refine WK [(2, Iz 0)] [] 0 (by simp [h1, h1_]) (by simp [h1, h1_]) ?_
  simp only [Option.some.injEq] at hF
  subst hF
  refine AW.ret (hQ _ _ _ ?_ (matchO_0 ?_)).1
  ·simp [Try.f44, h1, h1_]
  ·simp [h1, h1_]
theorem w_cases_pin (k : Nat) (v0 : Int) (v1 : Int) (v2 : ByteArray) (v3 : Int) (v4 : Int) (v5 : ByteArray) (v6 : Int) (hF : cases_pin k v0 v1 v2 v3 v4 v5 = some v6) :
  FCall Try.prog 48 [AV.agg [AV.int .i64 v0, AV.int .i64 v1, AV.str v2], AV.agg [AV.int .i64 v3, AV.int .i64 v4, AV.str v5]] [] (AV.int .i64 v6) [] := by
 unfold cases_pin at hF
 refine EN Try.func48 ?_
 intro c0 w0 Q h0 hQ
 refine WK [(0, AV.agg [Iz v0, Iz v1, AV.str v2]), (1, AV.agg [Iz v3, Iz v4, AV.str v5])] [] 0 (by simp) (by simp) ?_
 refine SQ [] [none, none, none] fun _ _ g r => ?_
 try simp
 and_intros <;> first | exact g _ (by kernel_rfl) | refine r _ _ _ ?_ | omega | (simp [maxLen] <;> omega)
 refine WK [(2, AV.ptr 0 0), (3, AV.ptr 1 0)] [(0, .cells [Iz v0, Iz v1, AV.str v2]), (1, .cells [Iz v3, Iz v4, AV.str v5])] 2 (by simp) (by simp) ?_
 refine SQ [] [none, none, none, none, none, none, none, none, none, none, none, none, none, none, none, none, none, none] fun _ _ g r => ?_
 try simp
 and_intros
 try any_goals first | omega | (simp [maxLen] <;> omega)
 obtain ⟨v7, h1, hF⟩ := bnd1_elim hF
 refine AC (w_cmp_Compare_int k _ _ _ h1) (.cons (.same (by simp)) (.cons (.same (by simp)) .nil)) ?_
 try simp
 and_intros
 try any_goals first | omega | (simp [maxLen] <;> omega)
 obtain ⟨v8, h2, hF⟩ := bnd1_elim hF
 refine AC (w_cmp_Compare_int k _ _ _ h2) (.cons (.same (by simp)) (.cons (.same (by simp)) .nil)) ?_
 try simp
 and_intros
 try any_goals first | omega | (simp [maxLen] <;> omega)
 obtain ⟨v9, h3, hF⟩ := bnd1_elim hF
 refine AC (w_strings_Compare k _ _ _ h3) (.cons (.same (by simp)) (.cons (.same (by simp)) .nil)) ?_
 try simp
 and_intros
 try any_goals first | omega | (simp [maxLen] <;> omega)
 obtain ⟨v10, h4, hF⟩ := bnd1_elim hF
 refine AC (w_cmp_Or_int k _ _ h4) (.cons (Coe.fl (by simp)) .nil) ?_
 try simp
 and_intros <;> first | exact g _ (by kernel_rfl) | refine r _ _ _ ?_ | omega | (simp [maxLen] <;> omega)
 refine WK [(4, Iz v10)] [] 2 (by simp) (by simp) ?_
 simp only [Option.some.injEq] at hF
 subst hF
 refine AW.ret (hQ _ _ _ ?_ (matchO_0 ?_)).1
 ·simp [Try.f48]
 ·simp
theorem w_cases_order_api_Pin_cases_pin (k : Nat) (v0 : (List api_Pin)) (v1 : (List api_Pin)) (v2 : Int) (hF : cases_order_api_Pin_cases_pin k v0 v1 = some v2) :
  FCall Try.prog 47 [AV.lst false false (List.map api_Pin.av v0), AV.lst false false (List.map api_Pin.av v1), AV.fn 48 []] [] (AV.int .i64 v2) [] := by
 unfold cases_order_api_Pin_cases_pin at hF
 refine EN Try.func47 ?_
 intro c0 w0 Q h0 hQ
 refine WK [(0, AV.lst false false (List.map api_Pin.av v0)), (1, AV.lst false false (List.map api_Pin.av v1)), (2, AV.fn 48 [])] [] 0 (by simp) (by simp) ?_
 refine SQ [] [none] fun _ _ g r => ?_
 try simp
 and_intros <;> first | exact g _ (by kernel_rfl) | refine r _ _ _ ?_ | omega | (simp [maxLen] <;> omega)
 refine WK [(0, AV.lst false false (List.map api_Pin.av v0)), (1, AV.lst false false (List.map api_Pin.av v1)), (2, AV.fn 48 [])] [] 0 (by simp) (by simp) ?_
 refine AW.seq fun K155 hK155 => ?_
 refine SQ [] [none, none, none, none, none, none] fun _ _ g r => ?_
 obtain ⟨v3, h1, hF⟩ := let1_elim hF
 have h1_ := h1
 try simp at h1_
 try simp [h1, h1_]
 and_intros <;> first | exact g _ (by kernel_rfl) | refine r _ _ _ ?_ | omega | (simp [h1, h1_, maxLen] <;> omega)
 refine WK [(0, AV.lst false false (List.map api_Pin.av v0)), (1, AV.lst false false (List.map api_Pin.av v1)), (2, AV.fn 48 []), (13, Iz v3), (14, Iz 0)] [] 0 (by simp [h1, h1_]) (by simp [h1, h1_]) ?_
 refine AW.block ?_
 refine AW.loopF (α := Int) (fun n v4 => cases_order_api_Pin_cases_pin.L1 k v0 v1 v3 n v4 = some v2) (fun v4 => [(0, AV.lst false false (List.map api_Pin.av v0)), (1, AV.lst false false (List.map api_Pin.av v1)), (2, AV.fn 48 []), (13, Iz v3), (14, Iz v4)]) (fun v4 => []) 0 k (0) hF (by simp [h1, h1_]) (by simp [h1, h1_]) (by simp) ?_
 rintro (_|n1) v4 hF K193 hK193
 ·try dsimp only at hF
  rw [cases_order_api_Pin_cases_pin.L1] at hF; cases hF
 try dsimp only at hF
 rw [cases_order_api_Pin_cases_pin.L1] at hF
 refine SQ [] [none] fun _ _ g r => ?_
 try simp [h1, h1_]
 and_intros <;> first | exact g _ (by kernel_rfl) | refine r _ _ _ ?_ | omega | (simp [h1, h1_, maxLen] <;> omega)
 refine WK [(0, AV.lst false false (List.map api_Pin.av v0)), (1, AV.lst false false (List.map api_Pin.av v1)), (2, AV.fn 48 []), (13, Iz v3), (14, Iz v4), (15, AV.bool (decide (v4 < v3)))] [] 0 (by simp [h1, h1_]) (by simp [h1, h1_]) ?_
 refine AW.seq fun K195 hK195 => ?_
 by_cases h2 : v4 < v3
 ·replace hF := ite_t h2 hF
  have h2_ := h2
  try simp at h2_
  have F1 := And.intro h1 (And.intro h1_ (And.intro h2 h2_))
  refine CT (by simp [F1] <;> omega) ?_
  refine AW.skip ?_
  refine hK195 _ _ _ ?_
  refine AW.seq fun K200 hK200 => ?_
  refine AW.block ?_
  refine SQ [] [none, none] fun _ _ g r => ?_
  try simp [F1]
  and_intros <;> first | exact g _ (by kernel_rfl) | refine r _ _ _ ?_ | omega | (simp [maxLen, F1] <;> omega)
  refine WK [(0, AV.lst false false (List.map api_Pin.av v0)), (1, AV.lst false false (List.map api_Pin.av v1)), (2, AV.fn 48 []), (7, Iz v4), (13, Iz v3), (14, Iz v4)] [] 0 (by simp [F1]) (by simp [F1]) ?_
  refine SQ [] [none, none, none, none, none, none, none, none, none, none, none] fun _ _ g r => ?_
  obtain ⟨v5, h3, h4, h5, hF⟩ := idx_elim hF
  have h5_ := get_of h5
  try simp at h5_
  have h4_ := h4
  try simp at h4_
  obtain ⟨v6, h6, h7, h8, hF⟩ := idx_elim hF
  have h8_ := get_of h8
  try simp at h8_
  have h7_ := h7
  try simp at h7_
  have F2 := And.intro F1 (And.intro h3 (And.intro h4 (And.intro h5 (And.intro h5_ (And.intro h4_ (And.intro h6 (And.intro h7 (And.intro h8 (And.intro h8_ h7_)))))))))
  try simp [F2]
  and_intros
  try any_goals first | omega | (simp [maxLen, F2] <;> omega)
  obtain ⟨v7, h9, hF⟩ := bnd1_elim hF
  refine AC (w_cases_pin k _ _ _ _ _ _ _ h9) (.cons (.same (by simp [F2])) (.cons (.same (by simp [F2])) .nil)) ?_
  try simp [F2]
  and_intros <;> first | exact g _ (by kernel_rfl) | refine r _ _ _ ?_ | omega | (simp [maxLen, F2] <;> omega)
  refine WK [(0, AV.lst false false (List.map api_Pin.av v0)), (1, AV.lst false false (List.map api_Pin.av v1)), (2, AV.fn 48 []), (8, Iz v7), (13, Iz v3), (14, Iz v4)] [] 0 (by simp [F2]) (by simp [F2]) ?_
  refine SQ [] [none, none] fun _ _ g r => ?_
  try simp [F2]
  and_intros <;> first | exact g _ (by kernel_rfl) | refine r _ _ _ ?_ | omega | (simp [maxLen, F2] <;> omega)
  refine WK [(0, AV.lst false false (List.map api_Pin.av v0)), (1, AV.lst false false (List.map api_Pin.av v1)), (2, AV.fn 48 []), (8, Iz v7), (13, Iz v3), (14, Iz v4), (28, AV.bool (v7 != 0))] [] 0 (by simp [F2]) (by simp [F2]) ?_
  by_cases h10 : v7 ≠ 0
  ·replace hF := ite_t h10 hF
   have h10_ := eqb_f h10
   have h10__ := neb_t h10
   have F3 := And.intro F2 (And.intro h10 (And.intro h10_ h10__))
   refine CT (by simp [F3] <;> omega) ?_
   refine SQ [] [none, none] fun _ _ g r => ?_
   try simp [F3]
   and_intros <;> first | exact g _ (by kernel_rfl) | refine r _ _ _ ?_ | omega | (simp [maxLen, F3] <;> omega)
   refine WK [(6, Iz v7)] [] 0 (by simp [F3]) (by simp [F3]) ?_
   simp only [Option.some.injEq] at hF
   subst hF
   refine AW.ret (hQ _ _ _ ?_ (matchO_0 ?_)).1
   ·simp [Try.f47, F3]
   ·simp [F3]
  ·replace hF := ite_f h10 hF
   have h10q : v7 = 0 := Classical.not_not.1 h10
   have h10_ := eqb_t h10q
   have h10__ := neb_f h10q
   have F4 := And.intro F2 (And.intro h10_ (And.intro h10__ h10q))
   refine CF (by simp [F4] <;> omega) ?_
   refine AW.skip ?_
   refine hK200 _ _ _ ?_
   refine RG [] [none, none] fun _ _ g r => ?_
   try simp [F4]
   and_intros <;> first | exact g _ (by kernel_rfl) | refine r _ _ _ ?_ | omega | (simp [maxLen, F4] <;> omega)
   refine hK193 _ _ _ ?_
   exact NX (k' := n1) (IntKind.wrap .i64 (v4 + 1)) hF (by simp [F4]) (by simp [F4])
 ·replace hF := ite_f h2 hF
  have h2_ := h2
  try simp at h2_
  have F5 := And.intro h1 (And.intro h1_ (And.intro h2 h2_))
  refine CF (by simp [F5] <;> omega) ?_
  refine AW.exit ?_
  try simp
  refine hK155 _ _ _ ?_
  refine SQ [] [none, none, none, none, none, none] fun _ _ g r => ?_
  try simp [F5]
  and_intros
  try any_goals first | omega | (simp [maxLen, F5] <;> omega)
  obtain ⟨v8, h11, hF⟩ := bnd1_elim hF
  refine AC (w_cmp_Compare_int k _ _ _ h11) (.cons (.same (by simp [F5])) (.cons (.same (by simp [F5])) .nil)) ?_
  try simp [F5]
  and_intros <;> first | exact g _ (by kernel_rfl) | refine r _ _ _ ?_ | omega | (simp [maxLen, F5] <;> omega)
  refine WK [(6, Iz v8)] [] 0 (by simp [F5]) (by simp [F5]) ?_
  simp only [Option.some.injEq] at hF
  subst hF
  refine AW.ret (hQ _ _ _ ?_ (matchO_0 ?_)).1
  ·simp [Try.f47, F5]
  ·simp [F5]
theorem w_cases_Order (k : Nat) (v0 : (List Int)) (v1 : (List api_Pin)) (v2 : (List Int)) (v3 : (List api_Pin)) (v4 : Int) (hF : cases_Order k v0 v1 v2 v3 = some v4) :
  FCall Try.prog 30 [AV.agg [AV.lst false false (List.map (AV.int .i64) v0), AV.lst false false (List.map api_Pin.av v1)], AV.agg [AV.lst false false (List.map (AV.int .i64) v2), AV.lst false false (List.map api_Pin.av v3)]] [] (AV.int .i64 v4) [] := by
 unfold cases_Order at hF
 refine EN Try.func30 ?_
 intro c0 w0 Q h0 hQ
 refine WK [(0, AV.agg [Lz v0, AV.lst false false (List.map api_Pin.av v1)]), (1, AV.agg [Lz v2, AV.lst false false (List.map api_Pin.av v3)])] [] 0 (by simp) (by simp) ?_
 refine SQ [] [none, none, none] fun _ _ g r => ?_
 try simp
 and_intros <;> first | exact g _ (by kernel_rfl) | refine r _ _ _ ?_ | omega | (simp [maxLen] <;> omega)
 refine WK [(2, AV.ptr 0 0), (3, AV.ptr 1 0)] [(0, .cells [Lz v0, AV.lst false false (List.map api_Pin.av v1)]), (1, .cells [Lz v2, AV.lst false false (List.map api_Pin.av v3)])] 2 (by simp) (by simp) ?_
 refine SQ [] [none, none, none, none, none, none, none, none, none, none, none, none, none] fun _ _ g r => ?_
 try simp
 and_intros
 try any_goals first | omega | (simp [maxLen] <;> omega)
 obtain ⟨v5, h1, hF⟩ := bnd1_elim hF
 refine AC (w_cases_order_int_Compare_int k _ _ _ h1) (.cons (.same (by simp)) (.cons (.same (by simp)) (.cons (.same (by simp)) .nil))) ?_
 try simp
 and_intros
 try any_goals first | omega | (simp [maxLen] <;> omega)
 obtain ⟨v6, h2, hF⟩ := bnd1_elim hF
 refine AC (w_cases_order_api_Pin_cases_pin k _ _ _ h2) (.cons (.same (by simp)) (.cons (.same (by simp)) (.cons (.same (by simp)) .nil))) ?_
 try simp
 and_intros
 try any_goals first | omega | (simp [maxLen] <;> omega)
 obtain ⟨v7, h3, hF⟩ := bnd1_elim hF
 refine AC (w_cmp_Or_int k _ _ h3) (.cons (Coe.fl (by simp)) .nil) ?_
 try simp
 and_intros <;> first | exact g _ (by kernel_rfl) | refine r _ _ _ ?_ | omega | (simp [maxLen] <;> omega)
 refine WK [(4, Iz v7)] [] 2 (by simp) (by simp) ?_
 simp only [Option.some.injEq] at hF
 subst hF
 refine AW.ret (hQ _ _ _ ?_ (matchO_0 ?_)).1
 ·simp [Try.f30]
 ·simp
theorem w_law23_CasesRaw (k : Nat) (v0 : (List Int)) (v1 : Int) (v2 : Int) (v3 : Int) (v4 : Int) (v5 : (List Int)) (v6 : (List api_Pin)) (v7 : Bool) (hF : law23_CasesRaw k v0 v1 v2 v3 v4 v5 v6 = some v7) :
  FCall Try.prog 4 [AV.lst false false (List.map (AV.int .i64) v0), AV.agg [AV.int .i64 v1, AV.int .i64 v2, AV.int .i64 v3, AV.int .i64 v4], AV.agg [AV.lst false false (List.map (AV.int .i64) v5), AV.lst false false (List.map api_Pin.av v6)]] [] (AV.bool v7) [] := by
 unfold law23_CasesRaw at hF
 refine EN Try.func4 ?_
 intro c0 w0 Q h0 hQ
 refine WK [(0, Lz v0), (1, AV.agg [Iz v1, Iz v2, Iz v3, Iz v4]), (2, AV.agg [Lz v5, AV.lst false false (List.map api_Pin.av v6)])] [] 0 (by simp) (by simp) ?_
 refine SQ [] [none, none, none] fun _ _ g r => ?_
 try simp
 and_intros <;> first | exact g _ (by kernel_rfl) | refine r _ _ _ ?_ | omega | (simp [maxLen] <;> omega)
 refine WK [(0, Lz v0), (4, AV.ptr 0 0), (5, AV.ptr 1 0)] [(0, .cells [Iz v1, Iz v2, Iz v3, Iz v4]), (1, .cells [Lz v5, AV.lst false false (List.map api_Pin.av v6)])] 2 (by simp) (by simp) ?_
 refine AW.seq fun K445 hK445 => ?_
 refine SQ [] [none, none, none, none, some (19, false), some (19, false), some (19, false), some (19, false), some (19, false), some (19, false), some (19, false), some (19, false), none] fun _ _ g r => ?_
 try simp
 and_intros
 try any_goals first | omega | (simp [maxLen] <;> omega)
 obtain ⟨v8, h1, hF⟩ := bnd1_elim hF
 refine AC (w_mill_Light k _ _ h1) (.cons (.same (by simp)) .nil) ?_
 by_cases h2 : (!v8) = true
 ·replace hF := ite_t h2 hF
  have h2_ := h2
  try simp at h2_
  try simp [h2, h2_]
  and_intros <;> first | exact g _ (by kernel_rfl) | refine r _ _ _ ?_ | omega | (simp [h2, h2_, maxLen] <;> omega)
  refine WK [(0, Lz v0), (4, AV.ptr 0 0), (5, AV.ptr 1 0), (28, AV.bool true)] [(0, .cells [Iz v1, Iz v2, Iz v3, Iz v4]), (1, .cells [Lz v5, AV.lst false false (List.map api_Pin.av v6)])] 2 (by simp [h2, h2_]) (by simp [h2, h2_]) ?_
  refine CT (by simp [h2, h2_]) ?_
  refine SQ [] [none, none] fun _ _ g r => ?_
  try simp [h2, h2_]
  and_intros
  try any_goals first | omega | (simp [h2, h2_, maxLen] <;> omega)
  obtain ⟨v9, h3, hF⟩ := bnd1_elim hF
  refine AC (w_law23_awake k _ h3) .nil ?_
  try simp [h2, h2_]
  and_intros <;> first | exact g _ (by kernel_rfl) | refine r _ _ _ ?_ | omega | (simp [h2, h2_, maxLen] <;> omega)
  refine WK [(6, AV.bool v9)] [] 2 (by simp [h2, h2_]) (by simp [h2, h2_]) ?_
  simp only [Option.some.injEq] at hF
  subst hF
  refine AW.ret (hQ _ _ _ ?_ (matchO_0 ?_)).1
  ·simp [Try.f4, h2, h2_]
  ·simp [h2, h2_]
 ·replace hF := ite_f h2 hF
  have h2_ := h2
  try simp at h2_
  try simp [h2, h2_]
  and_intros <;> first | exact g _ (by kernel_rfl) | refine r _ _ _ ?_ | omega | (simp [h2, h2_, maxLen] <;> omega)
  refine WK [(0, Lz v0), (4, AV.ptr 0 0), (5, AV.ptr 1 0), (28, AV.bool (decide (200 < IntKind.wrap .i64 ((v5.length : Int) + (v6.length : Int)))))] [(0, .cells [Iz v1, Iz v2, Iz v3, Iz v4]), (1, .cells [Lz v5, AV.lst false false (List.map api_Pin.av v6)])] 2 (by simp [h2, h2_]) (by simp [h2, h2_]) ?_
  by_cases h4 : 200 < IntKind.wrap .i64 ((v5.length : Int) + (v6.length : Int))
  ·replace hF := ite_t h4 hF
   have h4_ := h4
   try simp at h4_
   have F1 := And.intro h2 (And.intro h2_ (And.intro h4 h4_))
   refine CT (by simp [F1] <;> omega) ?_
   refine SQ [] [none, none] fun _ _ g r => ?_
   try simp [F1]
   and_intros
   try any_goals first | omega | (simp [maxLen, F1] <;> omega)
   obtain ⟨v10, h5, hF⟩ := bnd1_elim hF
   refine AC (w_law23_awake k _ h5) .nil ?_
   try simp [F1]
   and_intros <;> first | exact g _ (by kernel_rfl) | refine r _ _ _ ?_ | omega | (simp [maxLen, F1] <;> omega)
   refine WK [(6, AV.bool v10)] [] 2 (by simp [F1]) (by simp [F1]) ?_
   simp only [Option.some.injEq] at hF
   subst hF
   refine AW.ret (hQ _ _ _ ?_ (matchO_0 ?_)).1
   ·simp [Try.f4, F1]
   ·simp [F1]
  ·replace hF := ite_f h4 hF
   have h4_ := h4
   try simp at h4_
   have F2 := And.intro h2 (And.intro h2_ (And.intro h4 h4_))
   refine CF (by simp [F2] <;> omega) ?_
   refine AW.skip ?_
   refine hK445 _ _ _ ?_
   refine SQ [] [none, none, none] fun _ _ g r => ?_
   try simp [F2]
   and_intros
   try any_goals first | omega | (simp [maxLen, F2] <;> omega)
   obtain ⟨v11, v12, h6, hF⟩ := bnd2_elim hF
   refine AC (w_mill_Roll k _ _ _ h6) (.cons (.same (by simp [F2])) .nil) ?_
   try simp [F2]
   and_intros <;> first | exact g _ (by kernel_rfl) | refine r _ _ _ ?_ | omega | (simp [maxLen, F2] <;> omega)
   refine WK [(4, AV.ptr 0 0), (5, AV.ptr 1 0), (7, AV.ptr 2 0)] [(0, .cells [Iz v1, Iz v2, Iz v3, Iz v4]), (1, .cells [Lz v5, AV.lst false false (List.map api_Pin.av v6)]), (2, .cells [Lz v11, Iz v12])] 3 (by simp [F2]) (by simp [F2]) ?_
   refine SQ [] [none, none, none, none, none, none] fun _ _ g r => ?_
   try simp [F2]
   and_intros
   try any_goals first | omega | (simp [maxLen, F2] <;> omega)
   obtain ⟨v13, v14, h7, hF⟩ := bnd2_elim hF
   refine aCall_l (w_made_Dice_Next k _ _ _ _ _ h7) (by simp) [2] [] [2] rfl (.cons (.same (by simp [F2])) (.cons (.same (by simp [F2])) .nil)) (by simp [F2]) (by decide) (by simp) (by simp) (.inl rfl) (by simp) (by simp) ?_
   try simp [F2]
   and_intros
   try any_goals first | omega | (simp [maxLen, F2] <;> omega)
   obtain ⟨v15, v16, v17, v18, v19, h8, hF⟩ := bnd5_elim hF
   refine aCall_l (w_mill_Case k _ _ _ _ _ _ _ _ h8) (by simp) [2] [] [2] rfl (.cons (.same (by simp [F2])) (.cons (.same (by simp [F2])) .nil)) (by simp [F2]) (by decide) (by simp) (by simp) (.inl rfl) (by simp) (by simp) ?_
   try simp [F2]
   and_intros <;> first | exact g _ (by kernel_rfl) | refine r _ _ _ ?_ | omega | (simp [maxLen, F2] <;> omega)
   refine WK [(4, AV.ptr 0 0), (5, AV.ptr 1 0), (7, AV.ptr 2 0), (8, AV.ptr 3 0)] [(0, .cells [Iz v1, Iz v2, Iz v3, Iz v4]), (1, .cells [Lz v5, AV.lst false false (List.map api_Pin.av v6)]), (2, .cells [Lz v11, Iz v19]), (3, .cells [Iz v15, Iz v16, Iz v17, Iz v18])] 4 (by simp [F2]) (by simp [F2]) ?_
   refine SQ [] [none, none, none, none, none, none, none, none, none, none] fun _ _ g r => ?_
   try simp [F2]
   and_intros
   try any_goals first | omega | (simp [maxLen, F2] <;> omega)
   obtain ⟨v20, v21, v22, h9, hF⟩ := bnd3_elim hF
   refine aCall_l (w_mill_Content_o k _ _ _ _ _ _ _ _ _ h9) (by simp) [2] [] [2] rfl (.cons (.same (by simp [F2])) (.cons (.same (by simp [F2])) .nil)) (by simp [F2]) (by decide) (by simp) (by simp) (.inl rfl) (by simp) (by simp) ?_
   try simp [F2]
   and_intros
   try any_goals first | omega | (simp [maxLen, F2] <;> omega)
   obtain ⟨v23, v24, v25, h10, hF⟩ := bnd3_elim hF
   refine aCall_l (w_mill_Content_o k _ _ _ _ _ _ _ _ _ h10) (by simp) [2] [] [2] rfl (.cons (.same (by simp [F2])) (.cons (.same (by simp [F2])) .nil)) (by simp [F2]) (by decide) (by simp) (by simp) (.inl rfl) (by simp) (by simp) ?_
   try simp [F2]
   and_intros <;> first | exact g _ (by kernel_rfl) | refine r _ _ _ ?_ | omega | (simp [maxLen, F2] <;> omega)
   refine WK [(4, AV.ptr 0 0), (5, AV.ptr 1 0), (7, AV.ptr 2 0), (8, AV.ptr 3 0), (9, AV.ptr 8 0), (10, AV.ptr 9 0)] [(0, .cells [Iz v1, Iz v2, Iz v3, Iz v4]), (1, .cells [Lz v5, AV.lst false false (List.map api_Pin.av v6)]), (2, .cells [Lz v11, Iz v25]), (3, .cells [Iz v15, Iz v16, Iz v17, Iz v18]), (4, .cells (List.map (AV.int .i64) v20)), (5, .grow (flatA (List.map api_Pin.av v21))), (6, .cells (List.map (AV.int .i64) v23)), (7, .grow (flatA (List.map api_Pin.av v24))), (8, .cells [AV.slc 4 0 1 v20.length false, AV.slc 5 0 3 v21.length false]), (9, .cells [AV.slc 6 0 1 v23.length false, AV.slc 7 0 3 v24.length false])] 10 (by simp [F2]) (by simp [F2]) ?_
   refine AW.midF (α := (Int × Int × Int × Int × (List Int) × (List api_Pin))) (fun (v26, v27, v28, v29, v30, v31) => law23_CasesRaw.J1 k v1 v2 v3 v4 v5 v6 v23 v24 v26 v27 v28 v29 v30 v31 = some v7) (fun (v26, v27, v28, v29, v30, v31) => [(4, AV.ptr 0 0), (5, AV.ptr 1 0), (8, AV.ptr 2 0), (9, AV.ptr 3 0), (10, AV.ptr 5 0)]) (fun (v26, v27, v28, v29, v30, v31) => [(0, .cells [Iz v1, Iz v2, Iz v3, Iz v4]), (1, .cells [Lz v5, AV.lst false false (List.map api_Pin.av v6)]), (2, .cells [Iz v26, Iz v27, Iz v28, Iz v29]), (3, .cells [Lz v30, AV.slc 4 0 3 v31.length false]), (4, .grow (flatA (List.map api_Pin.av v31))), (5, .cells [Lz v23, AV.slc 6 0 3 v24.length false]), (6, .grow (flatA (List.map api_Pin.av v24)))]) 7 (fun K865 hK865 => ?_) ?_
   ·refine SQ [] [none, none] fun _ _ g r => ?_
    try simp [F2]
    and_intros
    try any_goals first | omega | (simp [maxLen, F2] <;> omega)
    obtain ⟨v66, v67, h35, hF⟩ := bnd2_elim hF
    refine aCall_l (w_made_Dice_Next k _ _ _ _ _ h35) (by simp) [2] [] [2] rfl (.cons (.same (by simp [F2])) (.cons (.same (by simp [F2])) .nil)) (by simp [F2]) (by decide) (by simp) (by simp) (.inl rfl) (by simp) (by simp) ?_
    try simp [F2]
    and_intros <;> first | exact g _ (by kernel_rfl) | refine r _ _ _ ?_ | omega | (simp [maxLen, F2] <;> omega)
    refine WK [(4, AV.ptr 0 0), (5, AV.ptr 1 0), (7, AV.ptr 2 0), (8, AV.ptr 3 0), (9, AV.ptr 8 0), (10, AV.ptr 9 0), (43, Iz v66)] [(0, .cells [Iz v1, Iz v2, Iz v3, Iz v4]), (1, .cells [Lz v5, AV.lst false false (List.map api_Pin.av v6)]), (2, .cells [Lz v11, Iz v67]), (3, .cells [Iz v15, Iz v16, Iz v17, Iz v18]), (4, .cells (List.map (AV.int .i64) v20)), (5, .grow (flatA (List.map api_Pin.av v21))), (6, .cells (List.map (AV.int .i64) v23)), (7, .grow (flatA (List.map api_Pin.av v24))), (8, .cells [AV.slc 4 0 1 v20.length false, AV.slc 5 0 3 v21.length false]), (9, .cells [AV.slc 6 0 1 v23.length false, AV.slc 7 0 3 v24.length false])] 10 (by simp [F2]) (by simp [F2]) ?_
    refine AW.block ?_
    refine SQ [] [none, none] fun _ _ g r => ?_
    try simp [F2]
    and_intros <;> first | exact g _ (by kernel_rfl) | refine r _ _ _ ?_ | omega | (simp [maxLen, F2] <;> omega)
    refine WK [(4, AV.ptr 0 0), (5, AV.ptr 1 0), (7, AV.ptr 2 0), (8, AV.ptr 3 0), (9, AV.ptr 8 0), (10, AV.ptr 9 0), (43, Iz v66), (44, AV.bool (v66 == 0))] [(0, .cells [Iz v1, Iz v2, Iz v3, Iz v4]), (1, .cells [Lz v5, AV.lst false false (List.map api_Pin.av v6)]), (2, .cells [Lz v11, Iz v67]), (3, .cells [Iz v15, Iz v16, Iz v17, Iz v18]), (4, .cells (List.map (AV.int .i64) v20)), (5, .grow (flatA (List.map api_Pin.av v21))), (6, .cells (List.map (AV.int .i64) v23)), (7, .grow (flatA (List.map api_Pin.av v24))), (8, .cells [AV.slc 4 0 1 v20.length false, AV.slc 5 0 3 v21.length false]), (9, .cells [AV.slc 6 0 1 v23.length false, AV.slc 7 0 3 v24.length false])] 10 (by simp [F2]) (by simp [F2]) ?_
    by_cases h36 : v66 = 0
    ·replace hF := ite_t h36 hF
     have h36q : v66 = 0 := h36
     have h36_ := eqb_t h36q
     have h36__ := neb_f h36q
     have F3 := And.intro F2 (And.intro h36_ (And.intro h36__ h36q))
     refine CT (by simp [F3] <;> omega) ?_
     refine RG [] [none, none, none, none, none] fun _ _ g r => ?_
     try simp [F3]
     and_intros
     try any_goals first | omega | (simp [maxLen, F3] <;> omega)
     obtain ⟨v68, v69, h37, hF⟩ := bnd2_elim hF
     refine aCall_l (w_made_Dice_Of k _ _ _ _ _ h37) (by simp) [2] [] [2] rfl (.cons (.same (by simp [F3])) (.cons (Coe.fl (by simp [F3])) .nil)) (by simp [F3]) (by decide) (by simp) (by simp) (.inl rfl) (by simp) (by simp) ?_
     try simp [F3]
     and_intros <;> first | exact g _ (by kernel_rfl) | refine r _ _ _ ?_ | omega | (simp [maxLen, F3] <;> omega)
     refine hK865 _ _ _ ?_
     refine Can.weak [(4, AV.ptr 0 0), (5, AV.ptr 1 0), (8, AV.ptr 3 0), (9, AV.ptr 8 0), (10, AV.ptr 9 0)] [(0, .cells [Iz v1, Iz v2, Iz v3, Iz v4]), (1, .cells [Lz v5, AV.lst false false (List.map api_Pin.av v6)]), (3, .cells [Iz v68, Iz v16, Iz v17, Iz v18]), (4, .cells (List.map (AV.int .i64) v20)), (5, .grow (flatA (List.map api_Pin.av v21))), (6, .cells (List.map (AV.int .i64) v23)), (7, .grow (flatA (List.map api_Pin.av v24))), (8, .cells [AV.slc 4 0 1 v20.length false, AV.slc 5 0 3 v21.length false]), (9, .cells [AV.slc 6 0 1 v23.length false, AV.slc 7 0 3 v24.length false])] 10 (by simp [F3]) (by simp [F3]) (by simp) ?_
     refine Can.freeze 4 (o := .cells (List.map (AV.int .i64) v20)) (by simp [F3]) rfl [] [(8, .cells [Lz v20, AV.slc 5 0 3 v21.length false])] trivial ⟨⟨by simp, AObj.cells [AV.slc 4 0 1 v20.length false, AV.slc 5 0 3 v21.length false], by simp [F3], (.mk (.cons (.l (by simp) (by simp) (by simp) (by simp)) (.cons (.same _) .nil)))⟩, trivial⟩ ?_
     refine Can.freeze 6 (o := .cells (List.map (AV.int .i64) v23)) (by simp [F3]) rfl [] [(9, .cells [Lz v23, AV.slc 7 0 3 v24.length false])] trivial ⟨⟨by simp, AObj.cells [AV.slc 6 0 1 v23.length false, AV.slc 7 0 3 v24.length false], by simp [F3], (.mk (.cons (.l (by simp) (by simp) (by simp) (by simp)) (.cons (.same _) .nil)))⟩, trivial⟩ ?_
     refine RN h0 [(0, 0), (1, 1), (2, 3), (3, 8), (4, 5), (5, 9), (6, 7)] [(4, AV.ptr 0 0), (5, AV.ptr 1 0), (8, AV.ptr 2 0), (9, AV.ptr 3 0), (10, AV.ptr 5 0)] [(0, .cells [Iz v1, Iz v2, Iz v3, Iz v4]), (1, .cells [Lz v5, AV.lst false false (List.map api_Pin.av v6)]), (2, .cells [Iz v68, Iz v16, Iz v17, Iz v18]), (3, .cells [Lz v20, AV.slc 4 0 3 v21.length false]), (4, .grow (flatA (List.map api_Pin.av v21))), (5, .cells [Lz v23, AV.slc 6 0 3 v24.length false]), (6, .grow (flatA (List.map api_Pin.av v24)))] 7 (by simp [F3]) (by simp [F3]) ?_
     exact JN ((v68, v16, v17, v18, v20, v21)) hF (by simp [F3]) (by simp [F3])
    ·replace hF := ite_f h36 hF
     have h36_ := eqb_f h36
     have h36__ := neb_t h36
     have F4 := And.intro F2 (And.intro h36 (And.intro h36_ h36__))
     refine CF (by simp [F4] <;> omega) ?_
     refine SQ [] [none, none] fun _ _ g r => ?_
     try simp [F4]
     and_intros <;> first | exact g _ (by kernel_rfl) | refine r _ _ _ ?_ | omega | (simp [maxLen, F4] <;> omega)
     refine WK [(4, AV.ptr 0 0), (5, AV.ptr 1 0), (7, AV.ptr 2 0), (8, AV.ptr 3 0), (9, AV.ptr 8 0), (10, AV.ptr 9 0), (43, Iz v66), (50, AV.bool (v66 == 1))] [(0, .cells [Iz v1, Iz v2, Iz v3, Iz v4]), (1, .cells [Lz v5, AV.lst false false (List.map api_Pin.av v6)]), (2, .cells [Lz v11, Iz v67]), (3, .cells [Iz v15, Iz v16, Iz v17, Iz v18]), (4, .cells (List.map (AV.int .i64) v20)), (5, .grow (flatA (List.map api_Pin.av v21))), (6, .cells (List.map (AV.int .i64) v23)), (7, .grow (flatA (List.map api_Pin.av v24))), (8, .cells [AV.slc 4 0 1 v20.length false, AV.slc 5 0 3 v21.length false]), (9, .cells [AV.slc 6 0 1 v23.length false, AV.slc 7 0 3 v24.length false])] 10 (by simp [F4]) (by simp [F4]) ?_
     by_cases h38 : v66 = 1
     ·replace hF := ite_t h38 hF
      have h38q : v66 = 1 := h38
      have h38_ := eqb_t h38q
      have h38__ := neb_f h38q
      have F5 := And.intro F4 (And.intro h38_ (And.intro h38__ h38q))
      refine CT (by simp [F5] <;> omega) ?_
      refine RG [] [none, none, none, none] fun _ _ g r => ?_
      try simp [F5]
      and_intros
      try any_goals first | omega | (simp [maxLen, F5] <;> omega)
      obtain ⟨v70, v71, h39, hF⟩ := bnd2_elim hF
      refine aCall_l (w_made_Dice_Next k _ _ _ _ _ h39) (by simp) [2] [] [2] rfl (.cons (.same (by simp [F5])) (.cons (.same (by simp [F5])) .nil)) (by simp [F5]) (by decide) (by simp) (by simp) (.inl rfl) (by simp) (by simp) ?_
      try simp [F5]
      and_intros <;> first | exact g _ (by kernel_rfl) | refine r _ _ _ ?_ | omega | (simp [maxLen, F5] <;> omega)
      refine hK865 _ _ _ ?_
      refine Can.weak [(4, AV.ptr 0 0), (5, AV.ptr 1 0), (8, AV.ptr 3 0), (9, AV.ptr 8 0), (10, AV.ptr 9 0)] [(0, .cells [Iz v1, Iz v2, Iz v3, Iz v4]), (1, .cells [Lz v5, AV.lst false false (List.map api_Pin.av v6)]), (3, .cells [Iz v15, Iz v70, Iz v17, Iz v18]), (4, .cells (List.map (AV.int .i64) v20)), (5, .grow (flatA (List.map api_Pin.av v21))), (6, .cells (List.map (AV.int .i64) v23)), (7, .grow (flatA (List.map api_Pin.av v24))), (8, .cells [AV.slc 4 0 1 v20.length false, AV.slc 5 0 3 v21.length false]), (9, .cells [AV.slc 6 0 1 v23.length false, AV.slc 7 0 3 v24.length false])] 10 (by simp [F5]) (by simp [F5]) (by simp) ?_
      refine Can.freeze 4 (o := .cells (List.map (AV.int .i64) v20)) (by simp [F5]) rfl [] [(8, .cells [Lz v20, AV.slc 5 0 3 v21.length false])] trivial ⟨⟨by simp, AObj.cells [AV.slc 4 0 1 v20.length false, AV.slc 5 0 3 v21.length false], by simp [F5], (.mk (.cons (.l (by simp) (by simp) (by simp) (by simp)) (.cons (.same _) .nil)))⟩, trivial⟩ ?_
      refine Can.freeze 6 (o := .cells (List.map (AV.int .i64) v23)) (by simp [F5]) rfl [] [(9, .cells [Lz v23, AV.slc 7 0 3 v24.length false])] trivial ⟨⟨by simp, AObj.cells [AV.slc 6 0 1 v23.length false, AV.slc 7 0 3 v24.length false], by simp [F5], (.mk (.cons (.l (by simp) (by simp) (by simp) (by simp)) (.cons (.same _) .nil)))⟩, trivial⟩ ?_
      refine RN h0 [(0, 0), (1, 1), (2, 3), (3, 8), (4, 5), (5, 9), (6, 7)] [(4, AV.ptr 0 0), (5, AV.ptr 1 0), (8, AV.ptr 2 0), (9, AV.ptr 3 0), (10, AV.ptr 5 0)] [(0, .cells [Iz v1, Iz v2, Iz v3, Iz v4]), (1, .cells [Lz v5, AV.lst false false (List.map api_Pin.av v6)]), (2, .cells [Iz v15, Iz v70, Iz v17, Iz v18]), (3, .cells [Lz v20, AV.slc 4 0 3 v21.length false]), (4, .grow (flatA (List.map api_Pin.av v21))), (5, .cells [Lz v23, AV.slc 6 0 3 v24.length false]), (6, .grow (flatA (List.map api_Pin.av v24)))] 7 (by simp [F5]) (by simp [F5]) ?_
      exact JN ((v15, v70, v17, v18, v20, v21)) hF (by simp [F5]) (by simp [F5])
     ·replace hF := ite_f h38 hF
      have h38_ := eqb_f h38
      have h38__ := neb_t h38
      have F6 := And.intro F4 (And.intro h38 (And.intro h38_ h38__))
      refine CF (by simp [F6] <;> omega) ?_
      refine SQ [] [none, none] fun _ _ g r => ?_
      try simp [F6]
      and_intros <;> first | exact g _ (by kernel_rfl) | refine r _ _ _ ?_ | omega | (simp [maxLen, F6] <;> omega)
      refine WK [(4, AV.ptr 0 0), (5, AV.ptr 1 0), (7, AV.ptr 2 0), (8, AV.ptr 3 0), (9, AV.ptr 8 0), (10, AV.ptr 9 0), (43, Iz v66), (55, AV.bool (v66 == 2))] [(0, .cells [Iz v1, Iz v2, Iz v3, Iz v4]), (1, .cells [Lz v5, AV.lst false false (List.map api_Pin.av v6)]), (2, .cells [Lz v11, Iz v67]), (3, .cells [Iz v15, Iz v16, Iz v17, Iz v18]), (4, .cells (List.map (AV.int .i64) v20)), (5, .grow (flatA (List.map api_Pin.av v21))), (6, .cells (List.map (AV.int .i64) v23)), (7, .grow (flatA (List.map api_Pin.av v24))), (8, .cells [AV.slc 4 0 1 v20.length false, AV.slc 5 0 3 v21.length false]), (9, .cells [AV.slc 6 0 1 v23.length false, AV.slc 7 0 3 v24.length false])] 10 (by simp [F6]) (by simp [F6]) ?_
      by_cases h40 : v66 = 2
      ·replace hF := ite_t h40 hF
       have h40q : v66 = 2 := h40
       have h40_ := eqb_t h40q
       have h40__ := neb_f h40q
       have F7 := And.intro F6 (And.intro h40_ (And.intro h40__ h40q))
       refine CT (by simp [F7] <;> omega) ?_
       refine RG [] [none, none, none, none, none] fun _ _ g r => ?_
       try simp [F7]
       and_intros
       try any_goals first | omega | (simp [maxLen, F7] <;> omega)
       obtain ⟨v72, v73, h41, hF⟩ := bnd2_elim hF
       refine aCall_l (w_made_Dice_Of k _ _ _ _ _ h41) (by simp) [2] [] [2] rfl (.cons (.same (by simp [F7])) (.cons (Coe.fl (by simp [F7])) .nil)) (by simp [F7]) (by decide) (by simp) (by simp) (.inl rfl) (by simp) (by simp) ?_
       try simp [F7]
       and_intros <;> first | exact g _ (by kernel_rfl) | refine r _ _ _ ?_ | omega | (simp [maxLen, F7] <;> omega)
       refine hK865 _ _ _ ?_
       refine Can.weak [(4, AV.ptr 0 0), (5, AV.ptr 1 0), (8, AV.ptr 3 0), (9, AV.ptr 8 0), (10, AV.ptr 9 0)] [(0, .cells [Iz v1, Iz v2, Iz v3, Iz v4]), (1, .cells [Lz v5, AV.lst false false (List.map api_Pin.av v6)]), (3, .cells [Iz v15, Iz v16, Iz v72, Iz v18]), (4, .cells (List.map (AV.int .i64) v20)), (5, .grow (flatA (List.map api_Pin.av v21))), (6, .cells (List.map (AV.int .i64) v23)), (7, .grow (flatA (List.map api_Pin.av v24))), (8, .cells [AV.slc 4 0 1 v20.length false, AV.slc 5 0 3 v21.length false]), (9, .cells [AV.slc 6 0 1 v23.length false, AV.slc 7 0 3 v24.length false])] 10 (by simp [F7]) (by simp [F7]) (by simp) ?_
       refine Can.freeze 4 (o := .cells (List.map (AV.int .i64) v20)) (by simp [F7]) rfl [] [(8, .cells [Lz v20, AV.slc 5 0 3 v21.length false])] trivial ⟨⟨by simp, AObj.cells [AV.slc 4 0 1 v20.length false, AV.slc 5 0 3 v21.length false], by simp [F7], (.mk (.cons (.l (by simp) (by simp) (by simp) (by simp)) (.cons (.same _) .nil)))⟩, trivial⟩ ?_
       refine Can.freeze 6 (o := .cells (List.map (AV.int .i64) v23)) (by simp [F7]) rfl [] [(9, .cells [Lz v23, AV.slc 7 0 3 v24.length false])] trivial ⟨⟨by simp, AObj.cells [AV.slc 6 0 1 v23.length false, AV.slc 7 0 3 v24.length false], by simp [F7], (.mk (.cons (.l (by simp) (by simp) (by simp) (by simp)) (.cons (.same _) .nil)))⟩, trivial⟩ ?_
       refine RN h0 [(0, 0), (1, 1), (2, 3), (3, 8), (4, 5), (5, 9), (6, 7)] [(4, AV.ptr 0 0), (5, AV.ptr 1 0), (8, AV.ptr 2 0), (9, AV.ptr 3 0), (10, AV.ptr 5 0)] [(0, .cells [Iz v1, Iz v2, Iz v3, Iz v4]), (1, .cells [Lz v5, AV.lst false false (List.map api_Pin.av v6)]), (2, .cells [Iz v15, Iz v16, Iz v72, Iz v18]), (3, .cells [Lz v20, AV.slc 4 0 3 v21.length false]), (4, .grow (flatA (List.map api_Pin.av v21))), (5, .cells [Lz v23, AV.slc 6 0 3 v24.length false]), (6, .grow (flatA (List.map api_Pin.av v24)))] 7 (by simp [F7]) (by simp [F7]) ?_
       exact JN ((v15, v16, v72, v18, v20, v21)) hF (by simp [F7]) (by simp [F7])
      ·replace hF := ite_f h40 hF
       have h40_ := eqb_f h40
       have h40__ := neb_t h40
       have F8 := And.intro F6 (And.intro h40 (And.intro h40_ h40__))
       refine CF (by simp [F8] <;> omega) ?_
       refine SQ [] [none, none] fun _ _ g r => ?_
       try simp [F8]
       and_intros <;> first | exact g _ (by kernel_rfl) | refine r _ _ _ ?_ | omega | (simp [maxLen, F8] <;> omega)
       refine WK [(4, AV.ptr 0 0), (5, AV.ptr 1 0), (7, AV.ptr 2 0), (8, AV.ptr 3 0), (9, AV.ptr 8 0), (10, AV.ptr 9 0), (43, Iz v66), (61, AV.bool (v66 == 3))] [(0, .cells [Iz v1, Iz v2, Iz v3, Iz v4]), (1, .cells [Lz v5, AV.lst false false (List.map api_Pin.av v6)]), (2, .cells [Lz v11, Iz v67]), (3, .cells [Iz v15, Iz v16, Iz v17, Iz v18]), (4, .cells (List.map (AV.int .i64) v20)), (5, .grow (flatA (List.map api_Pin.av v21))), (6, .cells (List.map (AV.int .i64) v23)), (7, .grow (flatA (List.map api_Pin.av v24))), (8, .cells [AV.slc 4 0 1 v20.length false, AV.slc 5 0 3 v21.length false]), (9, .cells [AV.slc 6 0 1 v23.length false, AV.slc 7 0 3 v24.length false])] 10 (by simp [F8]) (by simp [F8]) ?_
       by_cases h42 : v66 = 3
       ·replace hF := ite_t h42 hF
        have h42q : v66 = 3 := h42
        have h42_ := eqb_t h42q
        have h42__ := neb_f h42q
        have F9 := And.intro F8 (And.intro h42_ (And.intro h42__ h42q))
        refine CT (by simp [F9] <;> omega) ?_
        refine RG [] [none, none, none, none, none] fun _ _ g r => ?_
        try simp [F9]
        and_intros
        try any_goals first | omega | (simp [maxLen, F9] <;> omega)
        obtain ⟨v74, v75, h43, hF⟩ := bnd2_elim hF
        refine aCall_l (w_made_Dice_Of k _ _ _ _ _ h43) (by simp) [2] [] [2] rfl (.cons (.same (by simp [F9])) (.cons (Coe.fl (by simp [F9])) .nil)) (by simp [F9]) (by decide) (by simp) (by simp) (.inl rfl) (by simp) (by simp) ?_
        try simp [F9]
        and_intros <;> first | exact g _ (by kernel_rfl) | refine r _ _ _ ?_ | omega | (simp [maxLen, F9] <;> omega)
        refine hK865 _ _ _ ?_
        refine Can.weak [(4, AV.ptr 0 0), (5, AV.ptr 1 0), (8, AV.ptr 3 0), (9, AV.ptr 8 0), (10, AV.ptr 9 0)] [(0, .cells [Iz v1, Iz v2, Iz v3, Iz v4]), (1, .cells [Lz v5, AV.lst false false (List.map api_Pin.av v6)]), (3, .cells [Iz v15, Iz v16, Iz v17, Iz v74]), (4, .cells (List.map (AV.int .i64) v20)), (5, .grow (flatA (List.map api_Pin.av v21))), (6, .cells (List.map (AV.int .i64) v23)), (7, .grow (flatA (List.map api_Pin.av v24))), (8, .cells [AV.slc 4 0 1 v20.length false, AV.slc 5 0 3 v21.length false]), (9, .cells [AV.slc 6 0 1 v23.length false, AV.slc 7 0 3 v24.length false])] 10 (by simp [F9]) (by simp [F9]) (by simp) ?_
        refine Can.freeze 4 (o := .cells (List.map (AV.int .i64) v20)) (by simp [F9]) rfl [] [(8, .cells [Lz v20, AV.slc 5 0 3 v21.length false])] trivial ⟨⟨by simp, AObj.cells [AV.slc 4 0 1 v20.length false, AV.slc 5 0 3 v21.length false], by simp [F9], (.mk (.cons (.l (by simp) (by simp) (by simp) (by simp)) (.cons (.same _) .nil)))⟩, trivial⟩ ?_
        refine Can.freeze 6 (o := .cells (List.map (AV.int .i64) v23)) (by simp [F9]) rfl [] [(9, .cells [Lz v23, AV.slc 7 0 3 v24.length false])] trivial ⟨⟨by simp, AObj.cells [AV.slc 6 0 1 v23.length false, AV.slc 7 0 3 v24.length false], by simp [F9], (.mk (.cons (.l (by simp) (by simp) (by simp) (by simp)) (.cons (.same _) .nil)))⟩, trivial⟩ ?_
        refine RN h0 [(0, 0), (1, 1), (2, 3), (3, 8), (4, 5), (5, 9), (6, 7)] [(4, AV.ptr 0 0), (5, AV.ptr 1 0), (8, AV.ptr 2 0), (9, AV.ptr 3 0), (10, AV.ptr 5 0)] [(0, .cells [Iz v1, Iz v2, Iz v3, Iz v4]), (1, .cells [Lz v5, AV.lst false false (List.map api_Pin.av v6)]), (2, .cells [Iz v15, Iz v16, Iz v17, Iz v74]), (3, .cells [Lz v20, AV.slc 4 0 3 v21.length false]), (4, .grow (flatA (List.map api_Pin.av v21))), (5, .cells [Lz v23, AV.slc 6 0 3 v24.length false]), (6, .grow (flatA (List.map api_Pin.av v24)))] 7 (by simp [F9]) (by simp [F9]) ?_
        exact JN ((v15, v16, v17, v74, v20, v21)) hF (by simp [F9]) (by simp [F9])
       ·replace hF := ite_f h42 hF
        have h42_ := eqb_f h42
        have h42__ := neb_t h42
        have F10 := And.intro F8 (And.intro h42 (And.intro h42_ h42__))
        refine CF (by simp [F10] <;> omega) ?_
        refine SQ [] [none, none] fun _ _ g r => ?_
        try simp [F10]
        and_intros <;> first | exact g _ (by kernel_rfl) | refine r _ _ _ ?_ | omega | (simp [maxLen, F10] <;> omega)
        refine WK [(4, AV.ptr 0 0), (5, AV.ptr 1 0), (7, AV.ptr 2 0), (8, AV.ptr 3 0), (9, AV.ptr 8 0), (10, AV.ptr 9 0), (43, Iz v66), (67, AV.bool (v66 == 4))] [(0, .cells [Iz v1, Iz v2, Iz v3, Iz v4]), (1, .cells [Lz v5, AV.lst false false (List.map api_Pin.av v6)]), (2, .cells [Lz v11, Iz v67]), (3, .cells [Iz v15, Iz v16, Iz v17, Iz v18]), (4, .cells (List.map (AV.int .i64) v20)), (5, .grow (flatA (List.map api_Pin.av v21))), (6, .cells (List.map (AV.int .i64) v23)), (7, .grow (flatA (List.map api_Pin.av v24))), (8, .cells [AV.slc 4 0 1 v20.length false, AV.slc 5 0 3 v21.length false]), (9, .cells [AV.slc 6 0 1 v23.length false, AV.slc 7 0 3 v24.length false])] 10 (by simp [F10]) (by simp [F10]) ?_
        by_cases h44 : v66 = 4
        ·replace hF := ite_t h44 hF
         have h44q : v66 = 4 := h44
         have h44_ := eqb_t h44q
         have h44__ := neb_f h44q
         refine CT (by simp [F10, h44_, h44__, h44q] <;> omega) ?_
         refine RG [] [none, none, none, none, none, none] fun _ _ g r => ?_
         obtain ⟨h45, hF⟩ := chk_elim hF
         have h45_ := h45
         try simp at h45_
         have F11 := And.intro F10 (And.intro h44_ (And.intro h44__ (And.intro h44q h45)))
         try simp [F11]
         and_intros <;> first | exact g _ (by kernel_rfl) | refine r _ _ _ ?_ | omega | (simp [maxLen, F11] <;> omega)
         refine hK865 _ _ _ ?_
         refine Can.weak [(4, AV.ptr 0 0), (5, AV.ptr 1 0), (8, AV.ptr 3 0), (9, AV.ptr 8 0), (10, AV.ptr 9 0)] [(0, .cells [Iz v1, Iz v2, Iz v3, Iz v4]), (1, .cells [Lz v5, AV.lst false false (List.map api_Pin.av v6)]), (3, .cells [Iz v15, Iz v16, Iz v17, Iz v18]), (5, .grow (flatA (List.map api_Pin.av v21))), (6, .cells (List.map (AV.int .i64) v23)), (7, .grow (flatA (List.map api_Pin.av v24))), (8, .cells [AV.slc 10 0 1 ((v20 ++ ([0] : List Int)).length) false, AV.slc 5 0 3 v21.length false]), (9, .cells [AV.slc 6 0 1 v23.length false, AV.slc 7 0 3 v24.length false]), (10, .cells (List.map (AV.int .i64) (v20 ++ ([0] : List Int))))] 11 (by simp [F11]) (by simp [F11]) (by simp) ?_
         refine Can.freeze 10 (o := .cells (List.map (AV.int .i64) (v20 ++ ([0] : List Int)))) (by simp [F11]) rfl [] [(8, .cells [Lz (v20 ++ ([0] : List Int)), AV.slc 5 0 3 v21.length false])] trivial ⟨⟨by simp, AObj.cells [AV.slc 10 0 1 ((v20 ++ ([0] : List Int)).length) false, AV.slc 5 0 3 v21.length false], by simp [F11], (.mk (.cons (.l (by simp) (by simp) (by simp) (by simp)) (.cons (.same _) .nil)))⟩, trivial⟩ ?_
         refine Can.freeze 6 (o := .cells (List.map (AV.int .i64) v23)) (by simp [F11]) rfl [] [(9, .cells [Lz v23, AV.slc 7 0 3 v24.length false])] trivial ⟨⟨by simp, AObj.cells [AV.slc 6 0 1 v23.length false, AV.slc 7 0 3 v24.length false], by simp [F11], (.mk (.cons (.l (by simp) (by simp) (by simp) (by simp)) (.cons (.same _) .nil)))⟩, trivial⟩ ?_
         refine RN h0 [(0, 0), (1, 1), (2, 3), (3, 8), (4, 5), (5, 9), (6, 7)] [(4, AV.ptr 0 0), (5, AV.ptr 1 0), (8, AV.ptr 2 0), (9, AV.ptr 3 0), (10, AV.ptr 5 0)] [(0, .cells [Iz v1, Iz v2, Iz v3, Iz v4]), (1, .cells [Lz v5, AV.lst false false (List.map api_Pin.av v6)]), (2, .cells [Iz v15, Iz v16, Iz v17, Iz v18]), (3, .cells [Lz (v20 ++ ([0] : List Int)), AV.slc 4 0 3 v21.length false]), (4, .grow (flatA (List.map api_Pin.av v21))), (5, .cells [Lz v23, AV.slc 6 0 3 v24.length false]), (6, .grow (flatA (List.map api_Pin.av v24)))] 7 (by simp [F11]) (by simp [F11]) ?_
         exact JN ((v15, v16, v17, v18, v20 ++ ([0] : List Int), v21)) hF (by simp [F11]) (by simp [F11])
        ·replace hF := ite_f h44 hF
         have h44_ := eqb_f h44
         have h44__ := neb_t h44
         have F12 := And.intro F10 (And.intro h44 (And.intro h44_ h44__))
         refine CF (by simp [F12] <;> omega) ?_
         refine SQ [] [none, none] fun _ _ g r => ?_
         try simp [F12]
         and_intros <;> first | exact g _ (by kernel_rfl) | refine r _ _ _ ?_ | omega | (simp [maxLen, F12] <;> omega)
         refine WK [(4, AV.ptr 0 0), (5, AV.ptr 1 0), (7, AV.ptr 2 0), (8, AV.ptr 3 0), (9, AV.ptr 8 0), (10, AV.ptr 9 0), (43, Iz v66), (74, AV.bool (v66 == 5))] [(0, .cells [Iz v1, Iz v2, Iz v3, Iz v4]), (1, .cells [Lz v5, AV.lst false false (List.map api_Pin.av v6)]), (2, .cells [Lz v11, Iz v67]), (3, .cells [Iz v15, Iz v16, Iz v17, Iz v18]), (4, .cells (List.map (AV.int .i64) v20)), (5, .grow (flatA (List.map api_Pin.av v21))), (6, .cells (List.map (AV.int .i64) v23)), (7, .grow (flatA (List.map api_Pin.av v24))), (8, .cells [AV.slc 4 0 1 v20.length false, AV.slc 5 0 3 v21.length false]), (9, .cells [AV.slc 6 0 1 v23.length false, AV.slc 7 0 3 v24.length false])] 10 (by simp [F12]) (by simp [F12]) ?_
         by_cases h46 : v66 = 5
         ·replace hF := ite_t h46 hF
          have h46q : v66 = 5 := h46
          have h46_ := eqb_t h46q
          have h46__ := neb_f h46q
          have F13 := And.intro F12 (And.intro h46_ (And.intro h46__ h46q))
          refine CT (by simp [F13] <;> omega) ?_
          refine RG [] [none, none, none, none, none, none, none] fun _ _ g r => ?_
          try simp [F13]
          and_intros
          try any_goals first | omega | (simp [maxLen, F13] <;> omega)
          obtain ⟨v76, v77, h47, hF⟩ := bnd2_elim hF
          refine aCall_l (w_made_Dice_Of k _ _ _ _ _ h47) (by simp) [2] [] [2] rfl (.cons (.same (by simp [F13])) (.cons (Coe.fl (by simp [F13])) .nil)) (by simp [F13]) (by decide) (by simp) (by simp) (.inl rfl) (by simp) (by simp) ?_
          obtain ⟨⟨h48, h49⟩, hF⟩ := chk_elim hF
          have h49_ := ne_of_lt h49
          have F14 := And.intro F13 (And.intro h48 (And.intro h49 h49_))
          try simp [F14]
          and_intros <;> first | exact g _ (by kernel_rfl) | refine r _ _ _ ?_ | omega | (simp [maxLen, F14] <;> omega)
          refine hK865 _ _ _ ?_
          refine Can.weak [(4, AV.ptr 0 0), (5, AV.ptr 1 0), (8, AV.ptr 3 0), (9, AV.ptr 8 0), (10, AV.ptr 9 0)] [(0, .cells [Iz v1, Iz v2, Iz v3, Iz v4]), (1, .cells [Lz v5, AV.lst false false (List.map api_Pin.av v6)]), (3, .cells [Iz v15, Iz v16, Iz v17, Iz v18]), (4, .cells (List.map (AV.int .i64) (v20.set (0 : Int).toNat v76))), (5, .grow (flatA (List.map api_Pin.av v21))), (6, .cells (List.map (AV.int .i64) v23)), (7, .grow (flatA (List.map api_Pin.av v24))), (8, .cells [AV.slc 4 0 1 ((v20.set (0 : Int).toNat v76).length) false, AV.slc 5 0 3 v21.length false]), (9, .cells [AV.slc 6 0 1 v23.length false, AV.slc 7 0 3 v24.length false])] 10 (by simp [F14]) (by simp [F14]) (by simp) ?_
          refine Can.freeze 4 (o := .cells (List.map (AV.int .i64) (v20.set (0 : Int).toNat v76))) (by simp [F14]) rfl [] [(8, .cells [Lz (v20.set (0 : Int).toNat v76), AV.slc 5 0 3 v21.length false])] trivial ⟨⟨by simp, AObj.cells [AV.slc 4 0 1 ((v20.set (0 : Int).toNat v76).length) false, AV.slc 5 0 3 v21.length false], by simp [F14], (.mk (.cons (.l (by simp [-List.map_set]) (by simp [-List.map_set]) (by simp [-List.map_set]) (by simp [-List.map_set])) (.cons (.same _) .nil)))⟩, trivial⟩ ?_
          refine Can.freeze 6 (o := .cells (List.map (AV.int .i64) v23)) (by simp [F14]) rfl [] [(9, .cells [Lz v23, AV.slc 7 0 3 v24.length false])] trivial ⟨⟨by simp, AObj.cells [AV.slc 6 0 1 v23.length false, AV.slc 7 0 3 v24.length false], by simp [F14], (.mk (.cons (.l (by simp) (by simp) (by simp) (by simp)) (.cons (.same _) .nil)))⟩, trivial⟩ ?_
          refine RN h0 [(0, 0), (1, 1), (2, 3), (3, 8), (4, 5), (5, 9), (6, 7)] [(4, AV.ptr 0 0), (5, AV.ptr 1 0), (8, AV.ptr 2 0), (9, AV.ptr 3 0), (10, AV.ptr 5 0)] [(0, .cells [Iz v1, Iz v2, Iz v3, Iz v4]), (1, .cells [Lz v5, AV.lst false false (List.map api_Pin.av v6)]), (2, .cells [Iz v15, Iz v16, Iz v17, Iz v18]), (3, .cells [Lz (v20.set (0 : Int).toNat v76), AV.slc 4 0 3 v21.length false]), (4, .grow (flatA (List.map api_Pin.av v21))), (5, .cells [Lz v23, AV.slc 6 0 3 v24.length false]), (6, .grow (flatA (List.map api_Pin.av v24)))] 7 (by simp [F14]) (by simp [F14]) ?_
          exact JN ((v15, v16, v17, v18, v20.set (0 : Int).toNat v76, v21)) hF (by simp [F14]) (by simp [F14])
         ·replace hF := ite_f h46 hF
          have h46_ := eqb_f h46
          have h46__ := neb_t h46
          have F15 := And.intro F12 (And.intro h46 (And.intro h46_ h46__))
          refine CF (by simp [F15] <;> omega) ?_
          refine SQ [] [none, none] fun _ _ g r => ?_
          try simp [F15]
          and_intros <;> first | exact g _ (by kernel_rfl) | refine r _ _ _ ?_ | omega | (simp [maxLen, F15] <;> omega)
          refine WK [(4, AV.ptr 0 0), (5, AV.ptr 1 0), (7, AV.ptr 2 0), (8, AV.ptr 3 0), (9, AV.ptr 8 0), (10, AV.ptr 9 0), (82, AV.bool (v66 == 6))] [(0, .cells [Iz v1, Iz v2, Iz v3, Iz v4]), (1, .cells [Lz v5, AV.lst false false (List.map api_Pin.av v6)]), (2, .cells [Lz v11, Iz v67]), (3, .cells [Iz v15, Iz v16, Iz v17, Iz v18]), (4, .cells (List.map (AV.int .i64) v20)), (5, .grow (flatA (List.map api_Pin.av v21))), (6, .cells (List.map (AV.int .i64) v23)), (7, .grow (flatA (List.map api_Pin.av v24))), (8, .cells [AV.slc 4 0 1 v20.length false, AV.slc 5 0 3 v21.length false]), (9, .cells [AV.slc 6 0 1 v23.length false, AV.slc 7 0 3 v24.length false])] 10 (by simp [F15]) (by simp [F15]) ?_
          refine AW.frz 4 (o := .cells (List.map (AV.int .i64) v20)) (by simp [F15]) rfl [] [(8, .cells [Lz v20, AV.slc 5 0 3 v21.length false])] trivial ⟨⟨by simp, AObj.cells [AV.slc 4 0 1 v20.length false, AV.slc 5 0 3 v21.length false], by simp [F15], (.mk (.cons (.l (by simp) (by simp) (by simp) (by simp)) (.cons (.same _) .nil)))⟩, trivial⟩ ?_
          refine AW.frz 6 (o := .cells (List.map (AV.int .i64) v23)) (by simp [F15]) rfl [] [(9, .cells [Lz v23, AV.slc 7 0 3 v24.length false])] trivial ⟨⟨by simp, AObj.cells [AV.slc 6 0 1 v23.length false, AV.slc 7 0 3 v24.length false], by simp [F15], (.mk (.cons (.l (by simp) (by simp) (by simp) (by simp)) (.cons (.same _) .nil)))⟩, trivial⟩ ?_
          refine WK [(4, AV.ptr 0 0), (5, AV.ptr 1 0), (7, AV.ptr 2 0), (8, AV.ptr 3 0), (9, AV.ptr 8 0), (10, AV.ptr 9 0), (82, AV.bool (v66 == 6))] [(0, .cells [Iz v1, Iz v2, Iz v3, Iz v4]), (1, .cells [Lz v5, AV.lst false false (List.map api_Pin.av v6)]), (2, .cells [Lz v11, Iz v67]), (3, .cells [Iz v15, Iz v16, Iz v17, Iz v18]), (5, .grow (flatA (List.map api_Pin.av v21))), (7, .grow (flatA (List.map api_Pin.av v24))), (8, .cells [Lz v20, AV.slc 5 0 3 v21.length false]), (9, .cells [Lz v23, AV.slc 7 0 3 v24.length false])] 10 (by simp [F15]) (by simp [F15]) ?_
          by_cases h50 : v66 = 6
          ·replace hF := ite_t h50 hF
           have h50q : v66 = 6 := h50
           have h50_ := eqb_t h50q
           have h50__ := neb_f h50q
           have F16 := And.intro F15 (And.intro h50_ (And.intro h50__ h50q))
           refine CT (by simp [F16] <;> omega) ?_
           refine RG [] [none, none, none, none, none, none, none, none, none, none, none, none, none, none, none] fun _ _ g r => ?_
           try simp [F16]
           and_intros
           try any_goals first | omega | (simp [maxLen, F16] <;> omega)
           obtain ⟨v78, v79, h51, hF⟩ := bnd2_elim hF
           refine aCall_l (w_made_Dice_Of k _ _ _ _ _ h51) (by simp) [2] [] [2] rfl (.cons (.same (by simp [F16])) (.cons (Coe.fl (by simp [F16])) .nil)) (by simp [F16]) (by decide) (by simp) (by simp) (.inl rfl) (by simp) (by simp) ?_
           try simp [F16]
           and_intros
           try any_goals first | omega | (simp [maxLen, F16] <;> omega)
           obtain ⟨v80, v81, h52, hF⟩ := bnd2_elim hF
           refine aCall_l (w_made_Dice_Of k _ _ _ _ _ h52) (by simp) [2] [] [2] rfl (.cons (.same (by simp [F16])) (.cons (Coe.fl (by simp [F16])) .nil)) (by simp [F16]) (by decide) (by simp) (by simp) (.inl rfl) (by simp) (by simp) ?_
           try simp [F16]
           and_intros
           try any_goals first | omega | (simp [maxLen, F16] <;> omega)
           obtain ⟨v82, v83, h53, hF⟩ := bnd2_elim hF
           refine aCall_l (w_made_Dice_Digest k _ _ _ _ h53) (by simp) [2] [] [2] rfl (.cons (.same (by simp [F16])) .nil) (by simp [F16]) (by decide) (by simp) (by simp) (.inl rfl) (by simp) (by simp) ?_
           obtain ⟨h54, hF⟩ := chk_elim hF
           have h54_ := h54
           try simp at h54_
           have F17 := And.intro F16 h54
           try simp [F17]
           and_intros <;> first | exact g _ (by kernel_rfl) | refine r _ _ _ ?_ | omega | (simp [maxLen, F17] <;> omega)
           refine hK865 _ _ _ ?_
           refine RN h0 [(0, 0), (1, 1), (2, 3), (3, 8), (4, 10), (5, 9), (6, 7)] [(4, AV.ptr 0 0), (5, AV.ptr 1 0), (8, AV.ptr 2 0), (9, AV.ptr 3 0), (10, AV.ptr 5 0)] [(0, .cells [Iz v1, Iz v2, Iz v3, Iz v4]), (1, .cells [Lz v5, AV.lst false false (List.map api_Pin.av v6)]), (2, .cells [Iz v15, Iz v16, Iz v17, Iz v18]), (3, .cells [Lz v20, AV.slc 4 0 3 ((v21 ++ ([(api_Pin.mk v78 v80 v82)] : List api_Pin)).length) false]), (4, .grow (flatA (List.map api_Pin.av (v21 ++ ([(api_Pin.mk v78 v80 v82)] : List api_Pin))))), (5, .cells [Lz v23, AV.slc 6 0 3 v24.length false]), (6, .grow (flatA (List.map api_Pin.av v24)))] 7 (by simp [F17]) (by simp [F17]) ?_
           exact JN ((v15, v16, v17, v18, v20, v21 ++ ([(api_Pin.mk v78 v80 v82)] : List api_Pin))) hF (by simp [F17]) (by simp [F17])
          ·replace hF := ite_f h50 hF
           have h50_ := eqb_f h50
           have h50__ := neb_t h50
           have F18 := And.intro F15 (And.intro h50 (And.intro h50_ h50__))
           refine CF (by simp [F18] <;> omega) ?_
           refine AW.skip ?_
           refine hK865 _ _ _ ?_
           refine RN h0 [(0, 0), (1, 1), (2, 3), (3, 8), (4, 5), (5, 9), (6, 7)] [(4, AV.ptr 0 0), (5, AV.ptr 1 0), (8, AV.ptr 2 0), (9, AV.ptr 3 0), (10, AV.ptr 5 0)] [(0, .cells [Iz v1, Iz v2, Iz v3, Iz v4]), (1, .cells [Lz v5, AV.lst false false (List.map api_Pin.av v6)]), (2, .cells [Iz v15, Iz v16, Iz v17, Iz v18]), (3, .cells [Lz v20, AV.slc 4 0 3 v21.length false]), (4, .grow (flatA (List.map api_Pin.av v21))), (5, .cells [Lz v23, AV.slc 6 0 3 v24.length false]), (6, .grow (flatA (List.map api_Pin.av v24)))] 7 (by simp [F18]) (by simp [F18]) ?_
           exact JN ((v15, v16, v17, v18, v20, v21)) hF (by simp [F18]) (by simp [F18])
   ·rintro ⟨v26, v27, v28, v29, v30, v31⟩ hF
    try dsimp only at hF
    unfold law23_CasesRaw.J1 at hF
    refine AW.seq fun K665 hK665 => ?_
    refine SQ [] [none] fun _ _ g r => ?_
    try simp [F2]
    and_intros <;> first | exact g _ (by kernel_rfl) | refine r _ _ _ ?_ | omega | (simp [maxLen, F2] <;> omega)
    refine WK [(4, AV.ptr 0 0), (5, AV.ptr 1 0), (8, AV.ptr 2 0), (9, AV.ptr 3 0), (10, AV.ptr 5 0), (11, Iz 0)] [(0, .cells [Iz v1, Iz v2, Iz v3, Iz v4]), (1, .cells [Lz v5, AV.lst false false (List.map api_Pin.av v6)]), (2, .cells [Iz v26, Iz v27, Iz v28, Iz v29]), (3, .cells [Lz v30, AV.slc 4 0 3 v31.length false]), (4, .grow (flatA (List.map api_Pin.av v31))), (5, .cells [Lz v23, AV.slc 6 0 3 v24.length false]), (6, .grow (flatA (List.map api_Pin.av v24)))] 7 (by simp [F2]) (by simp [F2]) ?_
    refine AW.frz 4 (o := .grow (flatA (List.map api_Pin.av v31))) (by simp [F2]) rfl [] [(3, .cells [Lz v30, AV.lst false false (List.map api_Pin.av v31)])] trivial ⟨⟨by simp, AObj.cells [Lz v30, AV.slc 4 0 3 v31.length false], by simp [F2], (.mk (.cons (.same _) (.cons (.l (by simp) (by simp) (by simp) (by simp)) .nil)))⟩, trivial⟩ ?_
    refine AW.frz 6 (o := .grow (flatA (List.map api_Pin.av v24))) (by simp [F2]) rfl [] [(5, .cells [Lz v23, AV.lst false false (List.map api_Pin.av v24)])] trivial ⟨⟨by simp, AObj.cells [Lz v23, AV.slc 6 0 3 v24.length false], by simp [F2], (.mk (.cons (.same _) (.cons (.l (by simp) (by simp) (by simp) (by simp)) .nil)))⟩, trivial⟩ ?_
    refine WK [(4, AV.ptr 0 0), (5, AV.ptr 1 0), (8, AV.ptr 2 0), (9, AV.ptr 3 0), (10, AV.ptr 5 0), (11, Iz 0)] [(0, .cells [Iz v1, Iz v2, Iz v3, Iz v4]), (1, .cells [Lz v5, AV.lst false false (List.map api_Pin.av v6)]), (2, .cells [Iz v26, Iz v27, Iz v28, Iz v29]), (3, .cells [Lz v30, AV.lst false false (List.map api_Pin.av v31)]), (5, .cells [Lz v23, AV.lst false false (List.map api_Pin.av v24)])] 7 (by simp [F2]) (by simp [F2]) ?_
    refine AW.block ?_
    refine RM h0 [(0, 0), (1, 1), (2, 2), (3, 3), (4, 5)] [(4, AV.ptr 0 0), (5, AV.ptr 1 0), (8, AV.ptr 2 0), (9, AV.ptr 3 0), (10, AV.ptr 4 0), (11, Iz 0)] [(0, .cells [Iz v1, Iz v2, Iz v3, Iz v4]), (1, .cells [Lz v5, AV.lst false false (List.map api_Pin.av v6)]), (2, .cells [Iz v26, Iz v27, Iz v28, Iz v29]), (3, .cells [Lz v30, AV.lst false false (List.map api_Pin.av v31)]), (4, .cells [Lz v23, AV.lst false false (List.map api_Pin.av v24)])] 5 (by simp [F2]) (by simp [F2]) ?_
    refine AW.loopF (α := (Int × Int × Int × Int × Int × (List Int) × (List api_Pin))) (fun n (v32, v33, v34, v35, v36, v37, v38) => law23_CasesRaw.L2 k v1 v2 v3 v4 v5 v6 v23 v24 n v32 v33 v34 v35 v36 v37 v38 = some v7) (fun (v32, v33, v34, v35, v36, v37, v38) => [(4, AV.ptr 0 0), (5, AV.ptr 1 0), (8, AV.ptr 2 0), (9, AV.ptr 3 0), (10, AV.ptr 4 0), (11, Iz v32)]) (fun (v32, v33, v34, v35, v36, v37, v38) => [(0, .cells [Iz v1, Iz v2, Iz v3, Iz v4]), (1, .cells [Lz v5, AV.lst false false (List.map api_Pin.av v6)]), (2, .cells [Iz v33, Iz v34, Iz v35, Iz v36]), (3, .cells [Lz v37, AV.lst false false (List.map api_Pin.av v38)]), (4, .cells [Lz v23, AV.lst false false (List.map api_Pin.av v24)])]) 5 k ((0, v26, v27, v28, v29, v30, v31)) hF (by simp [F2]) (by simp [F2]) (by simp) ?_
    rintro (_|n2) ⟨v32, v33, v34, v35, v36, v37, v38⟩ hF K814 hK814
    ·try dsimp only at hF
     rw [law23_CasesRaw.L2] at hF; cases hF
    try dsimp only at hF
    rw [law23_CasesRaw.L2] at hF
    refine AW.seq fun K816 hK816 => ?_
    refine SQ [] [none, none] fun _ _ g r => ?_
    try simp [F2]
    and_intros <;> first | exact g _ (by kernel_rfl) | refine r _ _ _ ?_ | omega | (simp [maxLen, F2] <;> omega)
    refine WK [(4, AV.ptr 0 0), (5, AV.ptr 1 0), (8, AV.ptr 2 0), (9, AV.ptr 3 0), (10, AV.ptr 4 0), (11, Iz v32), (99, AV.bool (decide (v32 < 2)))] [(0, .cells [Iz v1, Iz v2, Iz v3, Iz v4]), (1, .cells [Lz v5, AV.lst false false (List.map api_Pin.av v6)]), (2, .cells [Iz v33, Iz v34, Iz v35, Iz v36]), (3, .cells [Lz v37, AV.lst false false (List.map api_Pin.av v38)]), (4, .cells [Lz v23, AV.lst false false (List.map api_Pin.av v24)])] 5 (by simp [F2]) (by simp [F2]) ?_
    by_cases h11 : v32 < 2
    ·replace hF := ite_t h11 hF
     have h11_ := h11
     try simp at h11_
     have F19 := And.intro F2 (And.intro h11 h11_)
     refine CT (by simp [F19] <;> omega) ?_
     refine AW.skip ?_
     refine hK816 _ _ _ ?_
     refine AW.seq fun K840 hK840 => ?_
     refine AW.block ?_
     refine SQ [] [none, none, none, none, none, none, none, none, none] fun _ _ g r => ?_
     try simp [F19]
     and_intros
     try any_goals first | omega | (simp [maxLen, F19] <;> omega)
     obtain ⟨v39, v40, v41, v42, v43, v44, v45, h12, hF⟩ := bnd7_elim hF
     refine AC (w_cases_Draft k _ _ _ _ _ _ _ _ _ _ _ _ _ h12) (.cons (.same (by simp [F19])) (.cons (.same (by simp [F19])) .nil)) ?_
     try simp [F19]
     and_intros <;> first | exact g _ (by kernel_rfl) | refine r _ _ _ ?_ | omega | (simp [maxLen, F19] <;> omega)
     refine WK [(4, AV.ptr 0 0), (5, AV.ptr 1 0), (8, AV.ptr 2 0), (9, AV.ptr 3 0), (10, AV.ptr 4 0), (11, Iz v32), (12, AV.ptr 5 0), (13, Iz v45)] [(0, .cells [Iz v1, Iz v2, Iz v3, Iz v4]), (1, .cells [Lz v5, AV.lst false false (List.map api_Pin.av v6)]), (2, .cells [Iz v33, Iz v34, Iz v35, Iz v36]), (3, .cells [Lz v37, AV.lst false false (List.map api_Pin.av v38)]), (4, .cells [Lz v23, AV.lst false false (List.map api_Pin.av v24)]), (5, .cells [Iz v39, Iz v40, Iz v41, Iz v42, Lz v43, AV.lst false false (List.map api_Pin.av v44)])] 6 (by simp [F19]) (by simp [F19]) ?_
     refine SQ [] [none, none, none, none, none, none, none, none, none] fun _ _ g r => ?_
     try simp [F19]
     and_intros
     try any_goals first | omega | (simp [maxLen, F19] <;> omega)
     obtain ⟨v46, v47, v48, v49, v50, v51, v52, h13, hF⟩ := bnd7_elim hF
     refine AC (w_ref23_Draft k _ _ _ _ _ _ _ _ _ _ _ _ _ h13) (.cons (.same (by simp [F19])) (.cons (.same (by simp [F19])) .nil)) ?_
     try simp [F19]
     and_intros <;> first | exact g _ (by kernel_rfl) | refine r _ _ _ ?_ | omega | (simp [maxLen, F19] <;> omega)
     refine WK [(4, AV.ptr 0 0), (5, AV.ptr 1 0), (8, AV.ptr 2 0), (9, AV.ptr 3 0), (10, AV.ptr 4 0), (11, Iz v32), (12, AV.ptr 5 0), (13, Iz v45), (14, AV.ptr 6 0), (15, Iz v52)] [(0, .cells [Iz v1, Iz v2, Iz v3, Iz v4]), (1, .cells [Lz v5, AV.lst false false (List.map api_Pin.av v6)]), (2, .cells [Iz v33, Iz v34, Iz v35, Iz v36]), (3, .cells [Lz v37, AV.lst false false (List.map api_Pin.av v38)]), (4, .cells [Lz v23, AV.lst false false (List.map api_Pin.av v24)]), (5, .cells [Iz v39, Iz v40, Iz v41, Iz v42, Lz v43, AV.lst false false (List.map api_Pin.av v44)]), (6, .cells [Iz v46, Iz v47, Iz v48, Iz v49, Lz v50, AV.lst false false (List.map api_Pin.av v51)])] 7 (by simp [F19]) (by simp [F19]) ?_
     refine AW.seq fun K852 hK852 => ?_
     refine SQ [] [none, none, none, none, some (117, false), some (117, false), some (117, false), some (117, false), none, none, some (123, false), some (123, false), some (123, false), some (123, false), some (123, false), none, none, some (130, false), some (130, false), some (130, false), some (130, false), some (130, false), none, none, some (137, false), some (137, false), some (137, false), some (137, false), some (137, false), some (137, false), some (137, false), none, none, some (146, false), some (146, false), some (146, false), some (146, false), some (146, false), some (146, false), some (146, false), none, none, some (155, false), some (155, false), some (155, false), some (155, false), some (155, false), some (155, false), some (155, false), none, none, some (164, false), some (164, false), some (164, false), some (164, false), none] fun _ _ g r => ?_
     by_cases h14 : v45 ≠ v52
     ·replace hF := ite_t h14 hF
      have h14_ := eqb_f h14
      have h14__ := neb_t h14
      have F20 := And.intro F19 (And.intro h14 (And.intro h14_ h14__))
      try simp [F20]
      and_intros <;> first | exact g _ (by kernel_rfl) | refine r _ _ _ ?_ | omega | (simp [maxLen, F20] <;> omega)
      refine WK [(4, AV.ptr 0 0), (5, AV.ptr 1 0), (8, AV.ptr 2 0), (9, AV.ptr 3 0), (10, AV.ptr 4 0), (11, Iz v32), (169, AV.bool true)] [(0, .cells [Iz v1, Iz v2, Iz v3, Iz v4]), (1, .cells [Lz v5, AV.lst false false (List.map api_Pin.av v6)]), (2, .cells [Iz v33, Iz v34, Iz v35, Iz v36]), (3, .cells [Lz v37, AV.lst false false (List.map api_Pin.av v38)]), (4, .cells [Lz v23, AV.lst false false (List.map api_Pin.av v24)])] 7 (by simp [F20]) (by simp [F20]) ?_
      refine CT (by simp [F20]) ?_
      refine SQ [] [none] fun _ _ g r => ?_
      try simp [F20]
      and_intros <;> first | exact g _ (by kernel_rfl) | refine r _ _ _ ?_ | omega | (simp [maxLen, F20] <;> omega)
      refine WK [(6, AV.bool false)] [] 7 (by simp [F20]) (by simp [F20]) ?_
      simp only [Option.some.injEq] at hF
      subst hF
      refine AW.ret (hQ _ _ _ ?_ (matchO_0 ?_)).1
      ·simp [Try.f4, F20]
      ·simp [F20]
     ·replace hF := ite_f h14 hF
      have h14q : v45 = v52 := Classical.not_not.1 h14
      have h14_ := eqb_t h14q
      have h14__ := neb_f h14q
      have F21 := And.intro F19 (And.intro h14_ h14__)
      try simp [F21]
      and_intros
      try any_goals first | omega | (simp [maxLen, F21] <;> omega)
      obtain ⟨v53, h15, hF⟩ := bnd1_elim hF
      refine AC (w_ref23_SameDraft k _ _ _ _ _ _ _ _ _ _ _ _ _ h15) (.cons (.same (by simp [F21])) (.cons (.same (by simp [F21])) .nil)) ?_
      by_cases h16 : (!v53) = true
      ·replace hF := ite_t h16 hF
       have h16_ := h16
       try simp at h16_
       have F22 := And.intro F21 (And.intro h16 h16_)
       try simp [F22]
       and_intros <;> first | exact g _ (by kernel_rfl) | refine r _ _ _ ?_ | omega | (simp [maxLen, F22] <;> omega)
       refine WK [(4, AV.ptr 0 0), (5, AV.ptr 1 0), (8, AV.ptr 2 0), (9, AV.ptr 3 0), (10, AV.ptr 4 0), (11, Iz v32), (169, AV.bool true)] [(0, .cells [Iz v1, Iz v2, Iz v3, Iz v4]), (1, .cells [Lz v5, AV.lst false false (List.map api_Pin.av v6)]), (2, .cells [Iz v33, Iz v34, Iz v35, Iz v36]), (3, .cells [Lz v37, AV.lst false false (List.map api_Pin.av v38)]), (4, .cells [Lz v23, AV.lst false false (List.map api_Pin.av v24)])] 7 (by simp [F22]) (by simp [F22]) ?_
       refine CT (by simp [F22]) ?_
       refine SQ [] [none] fun _ _ g r => ?_
       try simp [F22]
       and_intros <;> first | exact g _ (by kernel_rfl) | refine r _ _ _ ?_ | omega | (simp [maxLen, F22] <;> omega)
       refine WK [(6, AV.bool false)] [] 7 (by simp [F22]) (by simp [F22]) ?_
       simp only [Option.some.injEq] at hF
       subst hF
       refine AW.ret (hQ _ _ _ ?_ (matchO_0 ?_)).1
       ·simp [Try.f4, F22]
       ·simp [F22]
      ·replace hF := ite_f h16 hF
       have h16_ := h16
       try simp at h16_
       have F23 := And.intro F21 (And.intro h16 h16_)
       try simp [F23]
       and_intros
       try any_goals first | omega | (simp [maxLen, F23] <;> omega)
       obtain ⟨v54, h17, hF⟩ := bnd1_elim hF
       refine AC (w_cases_Valid k _ _ _ _ _ h17) (.cons (.same (by simp [F23])) .nil) ?_
       try simp [F23]
       and_intros
       try any_goals first | omega | (simp [maxLen, F23] <;> omega)
       obtain ⟨v55, h18, hF⟩ := bnd1_elim hF
       refine AC (w_ref23_Valid k _ _ _ _ _ h18) (.cons (.same (by simp [F23])) .nil) ?_
       by_cases h19 : (v54 != v55) = true
       ·replace hF := ite_t h19 hF
        have h19_ := h19
        try simp at h19_
        have F24 := And.intro F23 (And.intro h19 h19_)
        try simp [F24]
        and_intros <;> first | exact g _ (by kernel_rfl) | refine r _ _ _ ?_ | omega | (simp [maxLen, F24] <;> omega)
        refine WK [(4, AV.ptr 0 0), (5, AV.ptr 1 0), (8, AV.ptr 2 0), (9, AV.ptr 3 0), (10, AV.ptr 4 0), (11, Iz v32), (169, AV.bool true)] [(0, .cells [Iz v1, Iz v2, Iz v3, Iz v4]), (1, .cells [Lz v5, AV.lst false false (List.map api_Pin.av v6)]), (2, .cells [Iz v33, Iz v34, Iz v35, Iz v36]), (3, .cells [Lz v37, AV.lst false false (List.map api_Pin.av v38)]), (4, .cells [Lz v23, AV.lst false false (List.map api_Pin.av v24)])] 7 (by simp [F24]) (by simp [F24]) ?_
        refine CT (by simp [F24]) ?_
        refine SQ [] [none] fun _ _ g r => ?_
        try simp [F24]
        and_intros <;> first | exact g _ (by kernel_rfl) | refine r _ _ _ ?_ | omega | (simp [maxLen, F24] <;> omega)
        refine WK [(6, AV.bool false)] [] 7 (by simp [F24]) (by simp [F24]) ?_
        simp only [Option.some.injEq] at hF
        subst hF
        refine AW.ret (hQ _ _ _ ?_ (matchO_0 ?_)).1
        ·simp [Try.f4, F24]
        ·simp [F24]
       ·replace hF := ite_f h19 hF
        have h19_ := h19
        try simp at h19_
        have F25 := And.intro F23 (And.intro h19 h19_)
        try simp [F25]
        and_intros
        try any_goals first | omega | (simp [maxLen, F25] <;> omega)
        obtain ⟨v56, h20, hF⟩ := bnd1_elim hF
        refine AC (w_cases_Code k _ _ _ _ _ h20) (.cons (.same (by simp [F25])) .nil) ?_
        try simp [F25]
        and_intros
        try any_goals first | omega | (simp [maxLen, F25] <;> omega)
        obtain ⟨v57, h21, hF⟩ := bnd1_elim hF
        refine AC (w_ref23_Code k _ _ _ _ _ h21) (.cons (.same (by simp [F25])) .nil) ?_
        by_cases h22 : v56 ≠ v57
        ·replace hF := ite_t h22 hF
         have h22_ := eqb_f h22
         have h22__ := neb_t h22
         have F26 := And.intro F25 (And.intro h22 (And.intro h22_ h22__))
         try simp [F26]
         and_intros <;> first | exact g _ (by kernel_rfl) | refine r _ _ _ ?_ | omega | (simp [maxLen, F26] <;> omega)
         refine WK [(4, AV.ptr 0 0), (5, AV.ptr 1 0), (8, AV.ptr 2 0), (9, AV.ptr 3 0), (10, AV.ptr 4 0), (11, Iz v32), (169, AV.bool true)] [(0, .cells [Iz v1, Iz v2, Iz v3, Iz v4]), (1, .cells [Lz v5, AV.lst false false (List.map api_Pin.av v6)]), (2, .cells [Iz v33, Iz v34, Iz v35, Iz v36]), (3, .cells [Lz v37, AV.lst false false (List.map api_Pin.av v38)]), (4, .cells [Lz v23, AV.lst false false (List.map api_Pin.av v24)])] 7 (by simp [F26]) (by simp [F26]) ?_
         refine CT (by simp [F26]) ?_
         refine SQ [] [none] fun _ _ g r => ?_
         try simp [F26]
         and_intros <;> first | exact g _ (by kernel_rfl) | refine r _ _ _ ?_ | omega | (simp [maxLen, F26] <;> omega)
         refine WK [(6, AV.bool false)] [] 7 (by simp [F26]) (by simp [F26]) ?_
         simp only [Option.some.injEq] at hF
         subst hF
         refine AW.ret (hQ _ _ _ ?_ (matchO_0 ?_)).1
         ·simp [Try.f4, F26]
         ·simp [F26]
        ·replace hF := ite_f h22 hF
         have h22q : v56 = v57 := Classical.not_not.1 h22
         have h22_ := eqb_t h22q
         have h22__ := neb_f h22q
         have F27 := And.intro F25 (And.intro h22_ h22__)
         try simp [F27]
         and_intros
         try any_goals first | omega | (simp [maxLen, F27] <;> omega)
         obtain ⟨v58, h23, hF⟩ := bnd1_elim hF
         refine AC (w_cases_Right k _ _ _ _ _ _ _ h23) (.cons (.same (by simp [F27])) (.cons (.same (by simp [F27])) .nil)) ?_
         try simp [F27]
         and_intros
         try any_goals first | omega | (simp [maxLen, F27] <;> omega)
         obtain ⟨v59, h24, hF⟩ := bnd1_elim hF
         refine AC (w_ref23_Right k _ _ _ _ _ _ _ h24) (.cons (.same (by simp [F27])) (.cons (.same (by simp [F27])) .nil)) ?_
         by_cases h25 : (v58 != v59) = true
         ·replace hF := ite_t h25 hF
          have h25_ := h25
          try simp at h25_
          have F28 := And.intro F27 (And.intro h25 h25_)
          try simp [F28]
          and_intros <;> first | exact g _ (by kernel_rfl) | refine r _ _ _ ?_ | omega | (simp [maxLen, F28] <;> omega)
          refine WK [(4, AV.ptr 0 0), (5, AV.ptr 1 0), (8, AV.ptr 2 0), (9, AV.ptr 3 0), (10, AV.ptr 4 0), (11, Iz v32), (169, AV.bool true)] [(0, .cells [Iz v1, Iz v2, Iz v3, Iz v4]), (1, .cells [Lz v5, AV.lst false false (List.map api_Pin.av v6)]), (2, .cells [Iz v33, Iz v34, Iz v35, Iz v36]), (3, .cells [Lz v37, AV.lst false false (List.map api_Pin.av v38)]), (4, .cells [Lz v23, AV.lst false false (List.map api_Pin.av v24)])] 7 (by simp [F28]) (by simp [F28]) ?_
          refine CT (by simp [F28]) ?_
          refine SQ [] [none] fun _ _ g r => ?_
          try simp [F28]
          and_intros <;> first | exact g _ (by kernel_rfl) | refine r _ _ _ ?_ | omega | (simp [maxLen, F28] <;> omega)
          refine WK [(6, AV.bool false)] [] 7 (by simp [F28]) (by simp [F28]) ?_
          simp only [Option.some.injEq] at hF
          subst hF
          refine AW.ret (hQ _ _ _ ?_ (matchO_0 ?_)).1
          ·simp [Try.f4, F28]
          ·simp [F28]
         ·replace hF := ite_f h25 hF
          have h25_ := h25
          try simp at h25_
          have F29 := And.intro F27 (And.intro h25 h25_)
          try simp [F29]
          and_intros
          try any_goals first | omega | (simp [maxLen, F29] <;> omega)
          obtain ⟨v60, h26, hF⟩ := bnd1_elim hF
          refine AC (w_cases_Order k _ _ _ _ _ h26) (.cons (.same (by simp [F29])) (.cons (.same (by simp [F29])) .nil)) ?_
          try simp [F29]
          and_intros
          try any_goals first | omega | (simp [maxLen, F29] <;> omega)
          obtain ⟨v61, h27, hF⟩ := bnd1_elim hF
          refine AC (w_ref23_Order k _ _ _ _ _ h27) (.cons (.same (by simp [F29])) (.cons (.same (by simp [F29])) .nil)) ?_
          by_cases h28 : v60 ≠ v61
          ·replace hF := ite_t h28 hF
           have h28_ := eqb_f h28
           have h28__ := neb_t h28
           have F30 := And.intro F29 (And.intro h28 (And.intro h28_ h28__))
           try simp [F30]
           and_intros <;> first | exact g _ (by kernel_rfl) | refine r _ _ _ ?_ | omega | (simp [maxLen, F30] <;> omega)
           refine WK [(4, AV.ptr 0 0), (5, AV.ptr 1 0), (8, AV.ptr 2 0), (9, AV.ptr 3 0), (10, AV.ptr 4 0), (11, Iz v32), (169, AV.bool true)] [(0, .cells [Iz v1, Iz v2, Iz v3, Iz v4]), (1, .cells [Lz v5, AV.lst false false (List.map api_Pin.av v6)]), (2, .cells [Iz v33, Iz v34, Iz v35, Iz v36]), (3, .cells [Lz v37, AV.lst false false (List.map api_Pin.av v38)]), (4, .cells [Lz v23, AV.lst false false (List.map api_Pin.av v24)])] 7 (by simp [F30]) (by simp [F30]) ?_
           refine CT (by simp [F30]) ?_
           refine SQ [] [none] fun _ _ g r => ?_
           try simp [F30]
           and_intros <;> first | exact g _ (by kernel_rfl) | refine r _ _ _ ?_ | omega | (simp [maxLen, F30] <;> omega)
           refine WK [(6, AV.bool false)] [] 7 (by simp [F30]) (by simp [F30]) ?_
           simp only [Option.some.injEq] at hF
           subst hF
           refine AW.ret (hQ _ _ _ ?_ (matchO_0 ?_)).1
           ·simp [Try.f4, F30]
           ·simp [F30]
          ·replace hF := ite_f h28 hF
           have h28q : v60 = v61 := Classical.not_not.1 h28
           have h28_ := eqb_t h28q
           have h28__ := neb_f h28q
           have F31 := And.intro F29 (And.intro h28_ h28__)
           try simp [F31]
           and_intros
           try any_goals first | omega | (simp [maxLen, F31] <;> omega)
           obtain ⟨v62, h29, hF⟩ := bnd1_elim hF
           refine AC (w_cases_Order k _ _ _ _ _ h29) (.cons (.same (by simp [F31])) (.cons (.same (by simp [F31])) .nil)) ?_
           try simp [F31]
           and_intros
           try any_goals first | omega | (simp [maxLen, F31] <;> omega)
           obtain ⟨v63, h30, hF⟩ := bnd1_elim hF
           refine AC (w_ref23_Order k _ _ _ _ _ h30) (.cons (.same (by simp [F31])) (.cons (.same (by simp [F31])) .nil)) ?_
           by_cases h31 : v62 ≠ v63
           ·replace hF := ite_t h31 hF
            have h31_ := eqb_f h31
            have h31__ := neb_t h31
            have F32 := And.intro F31 (And.intro h31 (And.intro h31_ h31__))
            try simp [F32]
            and_intros <;> first | exact g _ (by kernel_rfl) | refine r _ _ _ ?_ | omega | (simp [maxLen, F32] <;> omega)
            refine WK [(4, AV.ptr 0 0), (5, AV.ptr 1 0), (8, AV.ptr 2 0), (9, AV.ptr 3 0), (10, AV.ptr 4 0), (11, Iz v32), (169, AV.bool true)] [(0, .cells [Iz v1, Iz v2, Iz v3, Iz v4]), (1, .cells [Lz v5, AV.lst false false (List.map api_Pin.av v6)]), (2, .cells [Iz v33, Iz v34, Iz v35, Iz v36]), (3, .cells [Lz v37, AV.lst false false (List.map api_Pin.av v38)]), (4, .cells [Lz v23, AV.lst false false (List.map api_Pin.av v24)])] 7 (by simp [F32]) (by simp [F32]) ?_
            refine CT (by simp [F32]) ?_
            refine SQ [] [none] fun _ _ g r => ?_
            try simp [F32]
            and_intros <;> first | exact g _ (by kernel_rfl) | refine r _ _ _ ?_ | omega | (simp [maxLen, F32] <;> omega)
            refine WK [(6, AV.bool false)] [] 7 (by simp [F32]) (by simp [F32]) ?_
            simp only [Option.some.injEq] at hF
            subst hF
            refine AW.ret (hQ _ _ _ ?_ (matchO_0 ?_)).1
            ·simp [Try.f4, F32]
            ·simp [F32]
           ·replace hF := ite_f h31 hF
            have h31q : v62 = v63 := Classical.not_not.1 h31
            have h31_ := eqb_t h31q
            have h31__ := neb_f h31q
            have F33 := And.intro F31 (And.intro h31_ h31__)
            try simp [F33]
            and_intros
            try any_goals first | omega | (simp [maxLen, F33] <;> omega)
            obtain ⟨v64, h32, hF⟩ := bnd1_elim hF
            refine AC (w_cases_Order k _ _ _ _ _ h32) (.cons (.same (by simp [F33])) (.cons (.same (by simp [F33])) .nil)) ?_
            try simp [F33]
            and_intros <;> first | exact g _ (by kernel_rfl) | refine r _ _ _ ?_ | omega | (simp [maxLen, F33] <;> omega)
            refine WK [(4, AV.ptr 0 0), (5, AV.ptr 1 0), (8, AV.ptr 2 0), (9, AV.ptr 3 0), (10, AV.ptr 4 0), (11, Iz v32), (169, AV.bool (v64 != 0))] [(0, .cells [Iz v1, Iz v2, Iz v3, Iz v4]), (1, .cells [Lz v5, AV.lst false false (List.map api_Pin.av v6)]), (2, .cells [Iz v33, Iz v34, Iz v35, Iz v36]), (3, .cells [Lz v37, AV.lst false false (List.map api_Pin.av v38)]), (4, .cells [Lz v23, AV.lst false false (List.map api_Pin.av v24)])] 7 (by simp [F33]) (by simp [F33]) ?_
            by_cases h33 : v64 ≠ 0
            ·replace hF := ite_t h33 hF
             have h33_ := eqb_f h33
             have h33__ := neb_t h33
             have F34 := And.intro F33 (And.intro h33 (And.intro h33_ h33__))
             refine CT (by simp [F34] <;> omega) ?_
             refine SQ [] [none] fun _ _ g r => ?_
             try simp [F34]
             and_intros <;> first | exact g _ (by kernel_rfl) | refine r _ _ _ ?_ | omega | (simp [maxLen, F34] <;> omega)
             refine WK [(6, AV.bool false)] [] 7 (by simp [F34]) (by simp [F34]) ?_
             simp only [Option.some.injEq] at hF
             subst hF
             refine AW.ret (hQ _ _ _ ?_ (matchO_0 ?_)).1
             ·simp [Try.f4, F34]
             ·simp [F34]
            ·replace hF := ite_f h33 hF
             have h33q : v64 = 0 := Classical.not_not.1 h33
             have h33_ := eqb_t h33q
             have h33__ := neb_f h33q
             have F35 := And.intro F33 (And.intro h33_ (And.intro h33__ h33q))
             refine CF (by simp [F35] <;> omega) ?_
             refine AW.skip ?_
             refine hK852 _ _ _ ?_
             refine RG [] [none, none, none, none] fun _ _ g r => ?_
             try simp [F35]
             and_intros <;> first | exact g _ (by kernel_rfl) | refine r _ _ _ ?_ | omega | (simp [maxLen, F35] <;> omega)
             refine hK840 _ _ _ ?_
             refine WK [(4, AV.ptr 0 0), (5, AV.ptr 1 0), (8, AV.ptr 2 0), (9, AV.ptr 3 0), (10, AV.ptr 4 0), (11, Iz v32)] [(0, .cells [Iz v1, Iz v2, Iz v3, Iz v4]), (1, .cells [Lz v5, AV.lst false false (List.map api_Pin.av v6)]), (2, .cells [Iz v1, Iz v2, Iz v3, Iz v4]), (3, .cells [Lz v5, AV.lst false false (List.map api_Pin.av v6)]), (4, .cells [Lz v23, AV.lst false false (List.map api_Pin.av v24)])] 7 (by simp [F35]) (by simp [F35]) ?_
             refine RG [] [none, none, none] fun _ _ g r => ?_
             try simp [F35]
             and_intros <;> first | exact g _ (by kernel_rfl) | refine r _ _ _ ?_ | omega | (simp [maxLen, F35] <;> omega)
             refine hK814 _ _ _ ?_
             refine RN h0 [(0, 0), (1, 1), (2, 2), (3, 3), (4, 4)] [(4, AV.ptr 0 0), (5, AV.ptr 1 0), (8, AV.ptr 2 0), (9, AV.ptr 3 0), (10, AV.ptr 4 0), (11, Iz (IntKind.wrap .i64 (v32 + 1)))] [(0, .cells [Iz v1, Iz v2, Iz v3, Iz v4]), (1, .cells [Lz v5, AV.lst false false (List.map api_Pin.av v6)]), (2, .cells [Iz v1, Iz v2, Iz v3, Iz v4]), (3, .cells [Lz v5, AV.lst false false (List.map api_Pin.av v6)]), (4, .cells [Lz v23, AV.lst false false (List.map api_Pin.av v24)])] 5 (by simp [F35]) (by simp [F35]) ?_
             exact NX (k' := n2) ((IntKind.wrap .i64 (v32 + 1), v1, v2, v3, v4, v5, v6)) hF (by simp [F35]) (by simp [F35])
    ·replace hF := ite_f h11 hF
     have h11_ := h11
     try simp at h11_
     have F36 := And.intro F2 (And.intro h11 h11_)
     refine CF (by simp [F36] <;> omega) ?_
     refine AW.exit ?_
     try simp
     refine hK665 _ _ _ ?_
     refine SQ [] [none, none] fun _ _ g r => ?_
     try simp [F36]
     and_intros
     try any_goals first | omega | (simp [maxLen, F36] <;> omega)
     obtain ⟨v65, h34, hF⟩ := bnd1_elim hF
     refine AC (w_law23_awake k _ h34) .nil ?_
     try simp [F36]
     and_intros <;> first | exact g _ (by kernel_rfl) | refine r _ _ _ ?_ | omega | (simp [maxLen, F36] <;> omega)
     refine WK [(6, AV.bool v65)] [] 5 (by simp [F36]) (by simp [F36]) ?_
     simp only [Option.some.injEq] at hF
     subst hF
     refine AW.ret (hQ _ _ _ ?_ (matchO_0 ?_)).1
     ·simp [Try.f4, F36]
     ·simp [F36]
end Go.TF
