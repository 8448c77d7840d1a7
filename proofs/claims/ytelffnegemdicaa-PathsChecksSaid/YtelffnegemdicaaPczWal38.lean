import Derived.Test.YtelffnegemdicaaPczWal30
import Derived.Test.YtelffnegemdicaaPczWal31
import Derived.Test.YtelffnegemdicaaPczWal35
import Derived.Test.YtelffnegemdicaaPczWal36
import Derived.Test.YtelffnegemdicaaPczWal37
set_option linter.unusedVariables false
set_option linter.unusedSimpArgs false
set_option maxRecDepth 100000
set_option maxHeartbeats 4000000
namespace Go.TF
open Go Go.Abs Go.Proofs Go.Proofs.YtelffnegemdicaaPcT
theorem AfZ (k : Nat) (v0 : (List Int)) (v1 : (List (List Int))) (v2 : (List Int)) (v3 : Bool) (nv2 : v2.length=3) (hF : Aai k v0 v1 v2=some v3) :
 AbF Try.prog 6 [AV.lst false false (List.map (AV.int .i64) v0),AV.lst false false (List.map (sl (AV.int .i64)) v1),AV.agg (List.map (AV.int .i64) v2)] [] (AV.bool v3) []:=by
 unfold Aai at hF;refine EN Try.func6 ?_;intro c0 w0 Q h0 hQ
 refine WK [(0,Lz v0),(1,AV.lst false false (List.map (sl (AV.int .i64)) v1)),(2,AV.agg (List.map (AV.int .i64) v2))] [] 0 (by simp [-List.drop_one,AaG]) (by simp [-List.drop_one,AaG]) ?_;refine SQ [] [none,none] fun _ _ g r=>?_;try simp [-List.drop_one,AaG]
 and_intros <;> first | exact GK g | apply r | omega | (simp [-List.drop_one,AaG,maxLen] <;> omega)
 refine WK [(0,Lz v0),(1,AV.lst false false (List.map (sl (AV.int .i64)) v1)),(5,AV.ptr 0 0)] [(0,Ci v2)] 1 (by simp [-List.drop_one,AaG]) (by simp [-List.drop_one,AaG]) ?_;refine AW.seq fun K120 hK120=>?_;refine SQ [] [none,none,none,none,some (16,false),some (16,false),some (16,false),none] fun _ _ g r=>?_;try simp [-List.drop_one,AaG]
 and_intros
 try any_goals first | omega | (simp [-List.drop_one,AaG,maxLen] <;> omega)
 obtain ⟨v4,h1,hF⟩:=AaN hF;refine AC (Aiv k _ _ h1) (.cons (.same (by simp)) .nil) ?_;by_cases h2 : (!v4)=true
 ·replace hF:=AaZ h2 hF;have h2_:=h2;try simp at h2_
  try simp [-List.drop_one,AaG,h2,h2_]
  and_intros <;> first | exact GK g | apply r | omega | (simp [-List.drop_one,AaG,h2,h2_,maxLen] <;> omega)
  refine WK [(0,Lz v0),(1,AV.lst false false (List.map (sl (AV.int .i64)) v1)),(5,AV.ptr 0 0),(20,AV.bool true)] [(0,Ci v2)] 1 (by simp [-List.drop_one,AaG,h2,h2_]) (by simp [-List.drop_one,AaG,h2,h2_]) ?_;refine CT (by simp [-List.drop_one,AaG,h2,h2_]) ?_;refine SQ [] [none,none] fun _ _ g r=>?_;try simp [-List.drop_one,AaG,h2,h2_]
  and_intros
  try any_goals first | omega | (simp [-List.drop_one,AaG,h2,h2_,maxLen] <;> omega)
  obtain ⟨v5,h3,hF⟩:=AaN hF;refine AC (Adb k _ h3) .nil ?_;try simp [-List.drop_one,AaG,h2,h2_]
  and_intros <;> first | exact GK g | apply r | omega | (simp [-List.drop_one,AaG,h2,h2_,maxLen] <;> omega)
  refine WK [(6,AV.bool v5)] [] 1 (by simp [-List.drop_one,AaG,h2,h2_]) (by simp [-List.drop_one,AaG,h2,h2_]) ?_;simp only [Option.some.injEq] at hF;subst hF;refine AW.ret (hQ _ _ _ ?_ (AaJ ?_)).1
  ·simp [Try.f6,h2,h2_]
  ·simp [h2,h2_]
 ·replace hF:=Aaa h2 hF;have h2_:=h2;try simp at h2_
  try simp [-List.drop_one,AaG,h2,h2_]
  and_intros <;> first | exact GK g | apply r | omega | (simp [-List.drop_one,AaG,h2,h2_,maxLen] <;> omega)
  refine WK [(0,Lz v0),(1,AV.lst false false (List.map (sl (AV.int .i64)) v1)),(5,AV.ptr 0 0),(20,AV.bool (decide (12<(v1.length : Int))))] [(0,Ci v2)] 1 (by simp [-List.drop_one,AaG,h2,h2_]) (by simp [-List.drop_one,AaG,h2,h2_]) ?_;by_cases h4 : 12<(v1.length : Int)
  ·replace hF:=AaZ h4 hF;have h4_:=h4;try simp at h4_
   have F1:=A4 h2 h2_ h4 h4_;refine CT (by simp [-List.drop_one,AaG,F1] <;> omega) ?_;refine SQ [] [none,none] fun _ _ g r=>?_;try simp [-List.drop_one,AaG,F1]
   and_intros
   try any_goals first | omega | (simp [-List.drop_one,AaG,maxLen,F1] <;> omega)
   obtain ⟨v6,h5,hF⟩:=AaN hF;refine AC (Adb k _ h5) .nil ?_;try simp [-List.drop_one,AaG,F1]
   and_intros <;> first | exact GK g | apply r | omega | (simp [-List.drop_one,AaG,maxLen,F1] <;> omega)
   refine WK [(6,AV.bool v6)] [] 1 (by simp [-List.drop_one,AaG,F1]) (by simp [-List.drop_one,AaG,F1]) ?_;simp only [Option.some.injEq] at hF;subst hF;refine AW.ret (hQ _ _ _ ?_ (AaJ ?_)).1
   ·simp [Try.f6,F1]
   ·simp [F1]
  ·replace hF:=Aaa h4 hF;have h4_:=h4;try simp at h4_
   have F2:=A4 h2 h2_ h4 h4_;refine CF (by simp [-List.drop_one,AaG,F2] <;> omega) ?_;refine AW.skip ?_;refine hK120 _ _ _ ?_;refine AW.seq fun K162 hK162=>?_;refine SQ [] [none] fun _ _ g r=>?_;try simp [-List.drop_one,AaG,F2]
   and_intros <;> first | exact GK g | apply r | omega | (simp [-List.drop_one,AaG,maxLen,F2] <;> omega)
   refine WK [(0,Lz v0),(1,AV.lst false false (List.map (sl (AV.int .i64)) v1)),(5,AV.ptr 0 0),(7,Iz 0)] [(0,Ci v2)] 1 (by simp [-List.drop_one,AaG,F2]) (by simp [-List.drop_one,AaG,F2]) ?_;refine AW.block ?_;refine AW.loopF (α:=Int) (fun n v7=>Aai.L1 k v0 v1 v2 n v7=some v3) (fun v7=>[(0,Lz v0),(1,AV.lst false false (List.map (sl (AV.int .i64)) v1)),(5,AV.ptr 0 0),(7,Iz v7)]) (fun v7=>[(0,Ci v2)]) 1 k (0) hF (by simp [-List.drop_one,AaG,F2]) (by simp [-List.drop_one,AaG,F2]) (by simp) ?_;rintro (_|n1) v7 hF K191 hK191
   ·try dsimp only at hF
    rw [Aai.L1] at hF; cases hF
   try dsimp only at hF
   rw [Aai.L1] at hF;refine AW.seq fun K193 hK193=>?_;refine SQ [] [none,none,none,none] fun _ _ g r=>?_;try simp [-List.drop_one,AaG,F2]
   and_intros <;> first | exact GK g | apply r | omega | (simp [-List.drop_one,AaG,maxLen,F2] <;> omega)
   refine WK [(0,Lz v0),(1,AV.lst false false (List.map (sl (AV.int .i64)) v1)),(5,AV.ptr 0 0),(7,Iz v7),(25,AV.bool (decide (v7<(v1.length : Int))))] [(0,Ci v2)] 1 (by simp [-List.drop_one,AaG,F2]) (by simp [-List.drop_one,AaG,F2]) ?_;by_cases h6 : v7<(v1.length : Int)
   ·replace hF:=AaZ h6 hF;have h6_:=h6;try simp at h6_
    have F3:=A3 F2 h6 h6_;refine CT (by simp [-List.drop_one,AaG,F3] <;> omega) ?_;refine AW.skip ?_;refine hK193 _ _ _ ?_;refine AW.seq fun K197 hK197=>?_;refine AW.block ?_;refine SQ [] [none,none,none,none,none,none] fun _ _ g r=>?_;obtain ⟨v8,h7,h8,h9,hF⟩:=Aad hF;have h9_:=Aas h9;try simp at h9_
    have h8_:=h8;try simp at h8_
    have F4:=A6 F3 h7 h8 h9 h9_ h8_;try simp [-List.drop_one,AaG,F4]
    and_intros <;> first | exact GK g | apply r | omega | (simp [-List.drop_one,AaG,maxLen,F4] <;> omega)
    refine WK [(0,Lz v0),(1,AV.lst false false (List.map (sl (AV.int .i64)) v1)),(5,AV.ptr 0 0),(7,Iz v7),(33,AV.bool (decide (30<(v8.length : Int))))] [(0,Ci v2)] 1 (by simp [-List.drop_one,AaG,F4]) (by simp [-List.drop_one,AaG,F4]) ?_;by_cases h10 : 30<(v8.length : Int)
    ·replace hF:=AaZ h10 hF;have h10_:=h10;try simp at h10_
     have F5:=A3 F4 h10 h10_;refine CT (by simp [-List.drop_one,AaG,F5] <;> omega) ?_;refine SQ [] [none,none] fun _ _ g r=>?_;try simp [-List.drop_one,AaG,F5]
     and_intros
     try any_goals first | omega | (simp [-List.drop_one,AaG,maxLen,F5] <;> omega)
     obtain ⟨v9,h11,hF⟩:=AaN hF;refine AC (Adb k _ h11) .nil ?_;try simp [-List.drop_one,AaG,F5]
     and_intros <;> first | exact GK g | apply r | omega | (simp [-List.drop_one,AaG,maxLen,F5] <;> omega)
     refine WK [(6,AV.bool v9)] [] 1 (by simp [-List.drop_one,AaG,F5]) (by simp [-List.drop_one,AaG,F5]) ?_;simp only [Option.some.injEq] at hF;subst hF;refine AW.ret (hQ _ _ _ ?_ (AaJ ?_)).1
     ·simp [Try.f6,F5]
     ·simp [F5]
    ·replace hF:=Aaa h10 hF;have h10_:=h10;try simp at h10_
     have F6:=A3 F4 h10 h10_;refine CF (by simp [-List.drop_one,AaG,F6] <;> omega) ?_;refine AW.skip ?_;refine hK197 _ _ _ ?_;refine RG [] [none,none,none] fun _ _ g r=>?_;try simp [-List.drop_one,AaG,F6]
     and_intros <;> first | exact GK g | apply r | omega | (simp [-List.drop_one,AaG,maxLen,F6] <;> omega)
     refine hK191 _ _ _ ?_;exact NX (k':=n1) (IntKind.wrap .i64 (v7+1)) hF (by simp [-List.drop_one,AaG,F6]) (by simp [-List.drop_one,AaG,F6])
   ·replace hF:=Aaa h6 hF;have h6_:=h6;try simp at h6_
    have F7:=A3 F2 h6 h6_;refine CF (by simp [-List.drop_one,AaG,F7] <;> omega) ?_;refine AW.exit ?_;try simp
    refine hK162 _ _ _ ?_;refine SQ [] [none,none,none] fun _ _ g r=>?_;try simp [-List.drop_one,AaG,F7]
    and_intros
    try any_goals first | omega | (simp [-List.drop_one,AaG,maxLen,F7] <;> omega)
    obtain ⟨v10,v11,h12,hF⟩:=AbX hF;refine AC (Ajp k _ _ _ h12) (.cons (.same (by simp [-List.drop_one,AaG,F7] <;> omega)) .nil) ?_;try simp [-List.drop_one,AaG,F7]
    and_intros <;> first | exact GK g | apply r | omega | (simp [-List.drop_one,AaG,maxLen,F7] <;> omega)
    refine WK [(1,AV.lst false false (List.map (sl (AV.int .i64)) v1)),(5,AV.ptr 0 0),(8,AV.ptr 1 0)] [(0,Ci v2),(1,.cells [Lz v10,Iz v11])] 2 (by simp [-List.drop_one,AaG,F7]) (by simp [-List.drop_one,AaG,F7]) ?_;refine SQ [] [none,none,none,none] fun _ _ g r=>?_;try simp [-List.drop_one,AaG,F7]
    and_intros
    try any_goals first | omega | (simp [-List.drop_one,AaG,maxLen,F7] <;> omega)
    obtain ⟨v12,v13,v14,v15,h13,hF⟩:=Ajd hF;refine AbA (AfY k _ _ _ _ _ _ h13) (by simp) [1] [] [1] rfl (.cons (.same (by simp [-List.drop_one,AaG,F7] <;> omega)) .nil) (by simp [-List.drop_one,AaG,F7]) (by decide) (by simp) (by simp) (.inl rfl) (by simp) (by simp) ?_;try simp [-List.drop_one,AaG,F7]
    and_intros <;> first | exact GK g | apply r | omega | (simp [-List.drop_one,AaG,maxLen,F7] <;> omega)
    refine WK [(1,AV.lst false false (List.map (sl (AV.int .i64)) v1)),(5,AV.ptr 0 0),(8,AV.ptr 1 0),(9,AV.ptr 4 0)] [(0,Ci v2),(1,.cells [Lz v10,Iz v15]),(2,.grow (AaM (List.map AaA.av v13))),(3,Gi v14),(4,.cells [Iz v12,AV.slc 2 0 3 v13.length false,AV.slc 3 0 1 v14.length false])] 5 (by simp [-List.drop_one,AaG,F7]) (by simp [-List.drop_one,AaG,F7]) ?_;refine AW.frz 2 (o := .grow (AaM (List.map AaA.av v13))) (by simp [-List.drop_one,AaG,F7]) rfl [] [(4,.cells [Iz v12,Q0 v13,AV.slc 3 0 1 v14.length false])] trivial ⟨⟨by simp,Aau.cells [Iz v12,AV.slc 2 0 3 v13.length false,AV.slc 3 0 1 v14.length false],by simp [-List.drop_one,AaG,F7],(.mk (.cons (.same _) (.cons (.l (by simp) (by simp) (by simp) (by simp)) (.cons (.same _) .nil))))⟩,trivial⟩ ?_;refine AW.frz 3 (o:=Gi v14) (by simp [-List.drop_one,AaG,F7]) rfl [] [(4,.cells [Iz v12,Q0 v13,Lz v14])] trivial ⟨⟨by simp,Aau.cells [Iz v12,Q0 v13,AV.slc 3 0 1 v14.length false],by simp [-List.drop_one,AaG,F7],(.mk (.cons (.same _) (.cons (.same _) (.cons (.l (by simp) (by simp) (by simp) (by simp)) .nil))))⟩,trivial⟩ ?_;refine WK [(1,AV.lst false false (List.map (sl (AV.int .i64)) v1)),(5,AV.ptr 0 0),(8,AV.ptr 1 0),(9,AV.ptr 4 0)] [(0,Ci v2),(1,.cells [Lz v10,Iz v15]),(4,.cells [Iz v12,Q0 v13,Lz v14])] 5 (by simp [-List.drop_one,AaG,F7]) (by simp [-List.drop_one,AaG,F7]) ?_;refine SQ [] [none,none,none,none,none,none,none,none,none,none] fun _ _ g r=>?_;try simp [-List.drop_one,AaG,F7]
    and_intros
    try any_goals first | omega | (simp [-List.drop_one,AaG,maxLen,F7] <;> omega)
    obtain ⟨v16,v17,h14,hF⟩:=AbX hF;refine AbA (AbV k _ _ _ _ _ h14) (by simp) [1] [] [1] rfl (.cons (.same (by simp [-List.drop_one,AaG,F7] <;> omega)) (.cons (.same (by simp [-List.drop_one,AaG,F7] <;> omega)) .nil)) (by simp [-List.drop_one,AaG,F7]) (by decide) (by simp) (by simp) (.inl rfl) (by simp) (by simp) ?_;try simp [-List.drop_one,AaG,F7]
    and_intros
    try any_goals first | omega | (simp [-List.drop_one,AaG,maxLen,F7] <;> omega)
    obtain ⟨v18,v19,h15,hF⟩:=AbX hF;refine AbA (AbV k _ _ _ _ _ h15) (by simp) [1] [] [1] rfl (.cons (.same (by simp [-List.drop_one,AaG,F7] <;> omega)) (.cons (.same (by simp [-List.drop_one,AaG,F7] <;> omega)) .nil)) (by simp [-List.drop_one,AaG,F7]) (by decide) (by simp) (by simp) (.inl rfl) (by simp) (by simp) ?_;try simp [-List.drop_one,AaG,F7]
    and_intros <;> first | exact GK g | apply r | omega | (simp [-List.drop_one,AaG,maxLen,F7] <;> omega)
    refine WK [(1,AV.lst false false (List.map (sl (AV.int .i64)) v1)),(5,AV.ptr 0 0),(8,AV.ptr 1 0),(9,AV.ptr 4 0),(10,Iz v16),(11,Iz v18)] [(0,Ci v2),(1,.cells [Lz v10,Iz v19]),(4,.cells [Iz v12,Q0 v13,Lz v14])] 5 (by simp [-List.drop_one,AaG,F7]) (by simp [-List.drop_one,AaG,F7]) ?_;refine SQ [] [none,none,none,none,none] fun _ _ g r=>?_;try simp [-List.drop_one,AaG,F7]
    and_intros
    try any_goals first | omega | (simp [-List.drop_one,AaG,maxLen,F7] <;> omega)
    obtain ⟨v20,h16,hF⟩:=AaN hF;refine AC (AiB k _ _ _ _ _ _ _ _ h16) (.cons (.same (by simp [-List.drop_one,AaG,F7] <;> omega)) (.cons (.same (by simp [-List.drop_one,AaG,F7] <;> omega)) (.cons (.same (by simp [-List.drop_one,AaG,F7] <;> omega)) (.cons (.same (by simp [-List.drop_one,AaG,F7] <;> omega)) (.cons (.same (by simp [-List.drop_one,AaG,F7] <;> omega)) .nil))))) ?_;try simp [-List.drop_one,AaG,F7]
    and_intros <;> first | exact GK g | apply r | omega | (simp [-List.drop_one,AaG,maxLen,F7] <;> omega)
    refine WK [(1,AV.lst false false (List.map (sl (AV.int .i64)) v1)),(5,AV.ptr 0 0),(8,AV.ptr 1 0),(9,AV.ptr 4 0),(10,Iz v16),(11,Iz v18),(12,AV.slc 5 0 1 v20.length false)] [(0,Ci v2),(1,.cells [Lz v10,Iz v19]),(4,.cells [Iz v12,Q0 v13,Lz v14]),(5,.grow (List.map (sl (AV.int .i64)) v20))] 6 (by simp [-List.drop_one,AaG,F7]) (by simp [-List.drop_one,AaG,F7]) ?_;refine AW.midF (α:=(List (List Int))) (fun v21=>Aai.J2 k v1 v2 v12 v13 v14 v16 v18 v21=some v3) (fun v21=>[(1,AV.lst false false (List.map (sl (AV.int .i64)) v1)),(5,AV.ptr 0 0),(9,AV.ptr 1 0),(10,Iz v16),(11,Iz v18),(12,AV.lst false false (List.map (sl (AV.int .i64)) v21))]) (fun v21=>[(0,Ci v2),(1,.cells [Iz v12,Q0 v13,Lz v14])]) 2 (fun K218 hK218=>?_) ?_
    ·refine SQ [] [none,none] fun _ _ g r=>?_;try simp [-List.drop_one,AaG,F7]
     and_intros
     try any_goals first | omega | (simp [-List.drop_one,AaG,maxLen,F7] <;> omega)
     obtain ⟨v34,v35,h57,hF⟩:=AbX hF;refine AbA (AbV k _ _ _ _ _ h57) (by simp) [1] [] [1] rfl (.cons (.same (by simp [-List.drop_one,AaG,F7] <;> omega)) (.cons (.same (by simp [-List.drop_one,AaG,F7] <;> omega)) .nil)) (by simp [-List.drop_one,AaG,F7]) (by decide) (by simp) (by simp) (.inl rfl) (by simp) (by simp) ?_;try simp [-List.drop_one,AaG,F7]
     and_intros <;> first | exact GK g | apply r | omega | (simp [-List.drop_one,AaG,maxLen,F7] <;> omega)
     refine WK [(1,AV.lst false false (List.map (sl (AV.int .i64)) v1)),(5,AV.ptr 0 0),(9,AV.ptr 4 0),(10,Iz v16),(11,Iz v18),(12,AV.slc 5 0 1 v20.length false),(52,Iz v34)] [(0,Ci v2),(4,.cells [Iz v12,Q0 v13,Lz v14]),(5,.grow (List.map (sl (AV.int .i64)) v20))] 6 (by simp [-List.drop_one,AaG,F7]) (by simp [-List.drop_one,AaG,F7]) ?_;refine AW.block ?_;refine SQ [] [none,none] fun _ _ g r=>?_;try simp [-List.drop_one,AaG,F7]
     and_intros <;> first | exact GK g | apply r | omega | (simp [-List.drop_one,AaG,maxLen,F7] <;> omega)
     refine WK [(1,AV.lst false false (List.map (sl (AV.int .i64)) v1)),(5,AV.ptr 0 0),(9,AV.ptr 4 0),(10,Iz v16),(11,Iz v18),(12,AV.slc 5 0 1 v20.length false),(52,Iz v34),(53,AV.bool (v34==0))] [(0,Ci v2),(4,.cells [Iz v12,Q0 v13,Lz v14]),(5,.grow (List.map (sl (AV.int .i64)) v20))] 6 (by simp [-List.drop_one,AaG,F7]) (by simp [-List.drop_one,AaG,F7]) ?_;by_cases h58 : v34=0
     ·replace hF:=AaZ h58 hF;have h58q : v34=0:=h58;have h58_:=Abf h58q;have h58__:=Abe h58q;refine CT (by simp [-List.drop_one,AaG,F7,h58_,h58__,h58q] <;> omega) ?_;refine RG [] [none,none,none,none] fun _ _ g r=>?_;obtain ⟨h59,hF⟩:=AaR hF;have h59_:=h59;try simp at h59_
      have F8:=A5 F7 h58_ h58__ h58q h59;try simp [-List.drop_one,AaG,F8]
      and_intros <;> first | exact GK g | apply r | omega | (simp [-List.drop_one,AaG,maxLen,F8] <;> omega)
      refine hK218 _ _ _ ?_;refine Can.weak [(1,AV.lst false false (List.map (sl (AV.int .i64)) v1)),(5,AV.ptr 0 0),(9,AV.ptr 4 0),(10,Iz v16),(11,Iz v18),(12,AV.slc 6 0 1 ((v20++v20).length) false)] [(0,Ci v2),(4,.cells [Iz v12,Q0 v13,Lz v14]),(6,.grow (List.map (sl (AV.int .i64)) (v20++v20)))] 7 (by simp [-List.drop_one,AaG,F8] <;> omega) (by simp [-List.drop_one,AaG,F8]) (by simp) ?_;refine Can.freeze 6 (o := .grow (List.map (sl (AV.int .i64)) (v20++v20))) (by simp [-List.drop_one,AaG,F8]) rfl [(12,AV.lst false false (List.map (sl (AV.int .i64)) (v20++v20)))] [] ⟨(.l (by simp) (by simp) (by simp) (by simp)),trivial⟩ trivial ?_;refine RN h0 [(0,0),(1,4)] [(1,AV.lst false false (List.map (sl (AV.int .i64)) v1)),(5,AV.ptr 0 0),(9,AV.ptr 1 0),(10,Iz v16),(11,Iz v18),(12,AV.lst false false (List.map (sl (AV.int .i64)) (v20++v20)))] [(0,Ci v2),(1,.cells [Iz v12,Q0 v13,Lz v14])] 2 (by simp [-List.drop_one,AaG,F8]) (by simp [-List.drop_one,AaG,F8]) ?_;exact JN (v20++v20) hF (by simp [-List.drop_one,AaG,F8]) (by simp [-List.drop_one,AaG,F8])
     ·replace hF:=Aaa h58 hF;have h58_:=AbY h58;have h58__:=Abc h58;have F9:=A4 F7 h58 h58_ h58__;refine CF (by simp [-List.drop_one,AaG,F9] <;> omega) ?_;refine SQ [] [none,none] fun _ _ g r=>?_;try simp [-List.drop_one,AaG,F9]
      and_intros <;> first | exact GK g | apply r | omega | (simp [-List.drop_one,AaG,maxLen,F9] <;> omega)
      refine WK [(1,AV.lst false false (List.map (sl (AV.int .i64)) v1)),(5,AV.ptr 0 0),(9,AV.ptr 4 0),(10,Iz v16),(11,Iz v18),(12,AV.slc 5 0 1 v20.length false),(52,Iz v34),(58,AV.bool (v34==1))] [(0,Ci v2),(4,.cells [Iz v12,Q0 v13,Lz v14]),(5,.grow (List.map (sl (AV.int .i64)) v20))] 6 (by simp [-List.drop_one,AaG,F9]) (by simp [-List.drop_one,AaG,F9]) ?_;by_cases h60 : v34=1
      ·replace hF:=AaZ h60 hF;have h60q : v34=1:=h60;have h60_:=Abf h60q;have h60__:=Abe h60q;have F10:=A4 F9 h60_ h60__ h60q;refine CT (by simp [-List.drop_one,AaG,F10] <;> omega) ?_;refine SQ [] [none,none,none] fun _ _ g r=>?_;try simp [-List.drop_one,AaG,F10]
       and_intros <;> first | exact GK g | apply r | omega | (simp [-List.drop_one,AaG,maxLen,F10] <;> omega)
       refine WK [(1,AV.lst false false (List.map (sl (AV.int .i64)) v1)),(5,AV.ptr 0 0),(9,AV.ptr 4 0),(10,Iz v16),(11,Iz v18),(12,AV.slc 5 0 1 v20.length false),(62,AV.bool (decide (0<(v20.length : Int))))] [(0,Ci v2),(4,.cells [Iz v12,Q0 v13,Lz v14]),(5,.grow (List.map (sl (AV.int .i64)) v20))] 6 (by simp [-List.drop_one,AaG,F10]) (by simp [-List.drop_one,AaG,F10]) ?_;by_cases h61 : 0<(v20.length : Int)
       ·replace hF:=AaZ h61 hF;have h61_:=h61;try simp at h61_
        have F11:=A3 F10 h61 h61_;refine CT (by simp [-List.drop_one,AaG,F11] <;> omega) ?_;refine RG [67] [none,none,none,none,none,none,none,none,none,none,none,none] fun _ _ g r=>?_;obtain ⟨⟨h62,h63⟩,hF⟩:=AaR hF;have h63_:=Aa3 h63;obtain ⟨v36,h64,h65,h66,hF⟩:=Aad hF;have h66_:=Aas h66;try simp at h66_
        have h65_:=h65;try simp at h65_
        have h66z:=Aew h66;obtain ⟨h67,hF⟩:=AaR hF;have h67_:=h67;try simp at h67_
        obtain ⟨⟨h68,h70,h69⟩,hF⟩:=AaR hF;have h69_:=Aa3 h69;obtain ⟨v37,h71,h72,h73,hF⟩:=Aad hF;have h73_:=Aas h73;try simp at h73_
        have h72_:=h72;try simp at h72_
        have h73z:=Aew h73;have F12:=A9 F11 h62 h63 h63_ h64 h65 h66 h66_ (A9 h65_ h66z h67 h68 h69 h70 h69_ h71 (A5 h72 h73 h73_ h72_ h73z));try simp [-List.drop_one,AaG,F12]
        and_intros
        try any_goals first | omega | (simp [-List.drop_one,AaG,maxLen,F12] <;> omega)
        obtain ⟨v38,h74,hF⟩:=AaN hF;refine AC (Ahj k _ _ _ h74) (.cons (.same (by simp [-List.drop_one,AaG,F12] <;> omega)) (.cons (.same (by simp [-List.drop_one,AaG,F12] <;> omega)) .nil)) ?_;obtain ⟨h75,hF⟩:=AaR hF;have h75_:=h75;try simp at h75_
        obtain ⟨⟨h76,h77⟩,hF⟩:=AaR hF;have h77_:=Aa3 h77;have F13:=A5 F12 h75 h76 h77 h77_;try simp [-List.drop_one,AaG,F13]
        and_intros <;> first | exact GK g | apply r | omega | (simp [-List.drop_one,AaG,maxLen,F13] <;> omega)
        refine hK218 _ _ _ ?_;refine Can.weak [(1,AV.lst false false (List.map (sl (AV.int .i64)) v1)),(5,AV.ptr 0 0),(9,AV.ptr 4 0),(10,Iz v16),(11,Iz v18),(12,AV.slc 5 0 1 v20.length false)] [(0,Ci v2),(4,.cells [Iz v12,Q0 v13,Lz v14]),(5,.grow ((List.map (sl (AV.int .i64)) v20).set (0 : Int).toNat (AV.slc 7 0 1 ((v36++([v38] : List Int)).length) false))),(7,Gi (v36++([v38] : List Int)))] 8 (by simp [-List.drop_one,AaG,F13]) (by simp [-List.drop_one,AaG,F13]) (by simp) ?_;refine Can.freeze 7 (o:=Gi (v36++([v38] : List Int))) (by simp [-List.drop_one,AaG,F13]) rfl [] [(5,.grow (List.map (sl (AV.int .i64)) (v20.set (0 : Int).toNat (v36++([v38] : List Int)))))] trivial ⟨⟨by simp,Aau.grow ((List.map (sl (AV.int .i64)) v20).set (0 : Int).toNat (AV.slc 7 0 1 ((v36++([v38] : List Int)).length) false)),by simp [-List.drop_one,AaG,F13],(AfW.setE (.l (by simp) (by simp) (by simp) (by simp)))⟩,trivial⟩ ?_;refine Can.freeze 5 (o := .grow (List.map (sl (AV.int .i64)) (v20.set (0 : Int).toNat (v36++([v38] : List Int))))) (by simp [-List.drop_one,AaG,F13]) rfl [(12,AV.lst false false (List.map (sl (AV.int .i64)) (v20.set (0 : Int).toNat (v36++([v38] : List Int)))))] [] ⟨(.l (by simp [-List.map_set]) (by simp [-List.map_set]) (by simp [-List.map_set]) (by simp [-List.map_set])),trivial⟩ trivial ?_;refine RN h0 [(0,0),(1,4)] [(1,AV.lst false false (List.map (sl (AV.int .i64)) v1)),(5,AV.ptr 0 0),(9,AV.ptr 1 0),(10,Iz v16),(11,Iz v18),(12,AV.lst false false (List.map (sl (AV.int .i64)) (v20.set (0 : Int).toNat (v36++([v38] : List Int)))))] [(0,Ci v2),(1,.cells [Iz v12,Q0 v13,Lz v14])] 2 (by simp [-List.drop_one,AaG,F13]) (by simp [-List.drop_one,AaG,F13]) ?_;exact JN (v20.set (0 : Int).toNat (v36++([v38] : List Int))) hF (by simp [-List.drop_one,AaG,F13]) (by simp [-List.drop_one,AaG,F13])
       ·replace hF:=Aaa h61 hF;have h61_:=h61;try simp at h61_
        have F14:=A3 F10 h61 h61_;refine CF (by simp [-List.drop_one,AaG,F14] <;> omega) ?_;refine AW.skip ?_;refine hK218 _ _ _ ?_;refine Can.freeze 5 (o := .grow (List.map (sl (AV.int .i64)) v20)) (by simp [-List.drop_one,AaG,F14]) rfl [(12,AV.lst false false (List.map (sl (AV.int .i64)) v20))] [] ⟨(.l (by simp) (by simp) (by simp) (by simp)),trivial⟩ trivial ?_;refine RN h0 [(0,0),(1,4)] [(1,AV.lst false false (List.map (sl (AV.int .i64)) v1)),(5,AV.ptr 0 0),(9,AV.ptr 1 0),(10,Iz v16),(11,Iz v18),(12,AV.lst false false (List.map (sl (AV.int .i64)) v20))] [(0,Ci v2),(1,.cells [Iz v12,Q0 v13,Lz v14])] 2 (by simp [-List.drop_one,AaG,F14]) (by simp [-List.drop_one,AaG,F14]) ?_;exact JN (v20) hF (by simp [-List.drop_one,AaG,F14]) (by simp [-List.drop_one,AaG,F14])
      ·replace hF:=Aaa h60 hF;have h60_:=AbY h60;have h60__:=Abc h60;have F15:=A4 F9 h60 h60_ h60__;refine CF (by simp [-List.drop_one,AaG,F15] <;> omega) ?_;refine SQ [] [none,none] fun _ _ g r=>?_;try simp [-List.drop_one,AaG,F15]
       and_intros <;> first | exact GK g | apply r | omega | (simp [-List.drop_one,AaG,maxLen,F15] <;> omega)
       refine WK [(1,AV.lst false false (List.map (sl (AV.int .i64)) v1)),(5,AV.ptr 0 0),(9,AV.ptr 4 0),(10,Iz v16),(11,Iz v18),(12,AV.slc 5 0 1 v20.length false),(52,Iz v34),(74,AV.bool (v34==2))] [(0,Ci v2),(4,.cells [Iz v12,Q0 v13,Lz v14]),(5,.grow (List.map (sl (AV.int .i64)) v20))] 6 (by simp [-List.drop_one,AaG,F15]) (by simp [-List.drop_one,AaG,F15]) ?_;by_cases h78 : v34=2
       ·replace hF:=AaZ h78 hF;have h78q : v34=2:=h78;have h78_:=Abf h78q;have h78__:=Abe h78q;have F16:=A4 F15 h78_ h78__ h78q;refine CT (by simp [-List.drop_one,AaG,F16] <;> omega) ?_;refine SQ [] [none,none,none] fun _ _ g r=>?_;try simp [-List.drop_one,AaG,F16]
        and_intros <;> first | exact GK g | apply r | omega | (simp [-List.drop_one,AaG,maxLen,F16] <;> omega)
        refine WK [(1,AV.lst false false (List.map (sl (AV.int .i64)) v1)),(5,AV.ptr 0 0),(9,AV.ptr 4 0),(10,Iz v16),(11,Iz v18),(12,AV.slc 5 0 1 v20.length false),(78,AV.bool (decide (0<(v20.length : Int))))] [(0,Ci v2),(4,.cells [Iz v12,Q0 v13,Lz v14]),(5,.grow (List.map (sl (AV.int .i64)) v20))] 6 (by simp [-List.drop_one,AaG,F16]) (by simp [-List.drop_one,AaG,F16]) ?_;by_cases h79 : 0<(v20.length : Int)
        ·replace hF:=AaZ h79 hF;have h79_:=h79;try simp at h79_
         have F17:=A3 F16 h79 h79_;refine CT (by simp [-List.drop_one,AaG,F17] <;> omega) ?_;refine RG [] [none,none,none,none,none,none,none] fun _ _ g r=>?_;obtain ⟨⟨h80,h81⟩,hF⟩:=AaR hF;have h81_:=Aa3 h81;obtain ⟨v39,h82,h83,h84,hF⟩:=Aad hF;have h84_:=Aas h84;try simp at h84_
         have h83_:=h83;try simp at h83_
         have h84z:=Aew h84;obtain ⟨h85,hF⟩:=AaR hF;have h85_:=h85;try simp at h85_
         obtain ⟨⟨h86,h87⟩,hF⟩:=AaR hF;have h87_:=Aa3 h87;have F18:=A9 F17 h80 h81 h81_ h82 h83 h84 h84_ (A7 h83_ h84z h85 h85_ h86 h87 h87_);try simp [-List.drop_one,AaG,F18]
         and_intros <;> first | exact GK g | apply r | omega | (simp [-List.drop_one,AaG,maxLen,F18] <;> omega)
         refine hK218 _ _ _ ?_;refine Can.weak [(1,AV.lst false false (List.map (sl (AV.int .i64)) v1)),(5,AV.ptr 0 0),(9,AV.ptr 4 0),(10,Iz v16),(11,Iz v18),(12,AV.slc 5 0 1 ((v20.set (0 : Int).toNat (v39.drop (1 : Int).toNat)).length) false)] [(0,Ci v2),(4,.cells [Iz v12,Q0 v13,Lz v14]),(5,.grow (List.map (sl (AV.int .i64)) (v20.set (0 : Int).toNat (v39.drop (1 : Int).toNat))))] 6 (by simp [-List.drop_one,AaG,F18]) (by simp [-List.drop_one,AaG,F18]) (by simp) ?_;refine Can.freeze 5 (o := .grow (List.map (sl (AV.int .i64)) (v20.set (0 : Int).toNat (v39.drop (1 : Int).toNat)))) (by simp [-List.drop_one,AaG,F18]) rfl [(12,AV.lst false false (List.map (sl (AV.int .i64)) (v20.set (0 : Int).toNat (v39.drop (1 : Int).toNat))))] [] ⟨(.l (by simp [-List.map_set]) (by simp [-List.map_set]) (by simp [-List.map_set]) (by simp [-List.map_set])),trivial⟩ trivial ?_;refine RN h0 [(0,0),(1,4)] [(1,AV.lst false false (List.map (sl (AV.int .i64)) v1)),(5,AV.ptr 0 0),(9,AV.ptr 1 0),(10,Iz v16),(11,Iz v18),(12,AV.lst false false (List.map (sl (AV.int .i64)) (v20.set (0 : Int).toNat (v39.drop (1 : Int).toNat))))] [(0,Ci v2),(1,.cells [Iz v12,Q0 v13,Lz v14])] 2 (by simp [-List.drop_one,AaG,F18]) (by simp [-List.drop_one,AaG,F18]) ?_;exact JN (v20.set (0 : Int).toNat (v39.drop (1 : Int).toNat)) hF (by simp [-List.drop_one,AaG,F18]) (by simp [-List.drop_one,AaG,F18])
        ·replace hF:=Aaa h79 hF;have h79_:=h79;try simp at h79_
         have F19:=A3 F16 h79 h79_;refine CF (by simp [-List.drop_one,AaG,F19] <;> omega) ?_;refine AW.skip ?_;refine hK218 _ _ _ ?_;refine Can.freeze 5 (o := .grow (List.map (sl (AV.int .i64)) v20)) (by simp [-List.drop_one,AaG,F19]) rfl [(12,AV.lst false false (List.map (sl (AV.int .i64)) v20))] [] ⟨(.l (by simp) (by simp) (by simp) (by simp)),trivial⟩ trivial ?_;refine RN h0 [(0,0),(1,4)] [(1,AV.lst false false (List.map (sl (AV.int .i64)) v1)),(5,AV.ptr 0 0),(9,AV.ptr 1 0),(10,Iz v16),(11,Iz v18),(12,AV.lst false false (List.map (sl (AV.int .i64)) v20))] [(0,Ci v2),(1,.cells [Iz v12,Q0 v13,Lz v14])] 2 (by simp [-List.drop_one,AaG,F19]) (by simp [-List.drop_one,AaG,F19]) ?_;exact JN (v20) hF (by simp [-List.drop_one,AaG,F19]) (by simp [-List.drop_one,AaG,F19])
       ·replace hF:=Aaa h78 hF;have h78_:=AbY h78;have h78__:=Abc h78;have F20:=A4 F15 h78 h78_ h78__;refine CF (by simp [-List.drop_one,AaG,F20] <;> omega) ?_;refine SQ [] [none,none] fun _ _ g r=>?_;try simp [-List.drop_one,AaG,F20]
        and_intros <;> first | exact GK g | apply r | omega | (simp [-List.drop_one,AaG,maxLen,F20] <;> omega)
        refine WK [(1,AV.lst false false (List.map (sl (AV.int .i64)) v1)),(5,AV.ptr 0 0),(9,AV.ptr 4 0),(10,Iz v16),(11,Iz v18),(12,AV.slc 5 0 1 v20.length false),(85,AV.bool (v34==3))] [(0,Ci v2),(4,.cells [Iz v12,Q0 v13,Lz v14]),(5,.grow (List.map (sl (AV.int .i64)) v20))] 6 (by simp [-List.drop_one,AaG,F20]) (by simp [-List.drop_one,AaG,F20]) ?_;refine AW.frz 5 (o := .grow (List.map (sl (AV.int .i64)) v20)) (by simp [-List.drop_one,AaG,F20]) rfl [(12,AV.lst false false (List.map (sl (AV.int .i64)) v20))] [] ⟨(.l (by simp) (by simp) (by simp) (by simp)),trivial⟩ trivial ?_;refine WK [(1,AV.lst false false (List.map (sl (AV.int .i64)) v1)),(5,AV.ptr 0 0),(9,AV.ptr 4 0),(10,Iz v16),(11,Iz v18),(12,AV.lst false false (List.map (sl (AV.int .i64)) v20)),(85,AV.bool (v34==3))] [(0,Ci v2),(4,.cells [Iz v12,Q0 v13,Lz v14])] 6 (by simp [-List.drop_one,AaG,F20]) (by simp [-List.drop_one,AaG,F20]) ?_;by_cases h88 : v34=3
        ·replace hF:=AaZ h88 hF;have h88q : v34=3:=h88;have h88_:=Abf h88q;have h88__:=Abe h88q;have F21:=A4 F20 h88_ h88__ h88q;refine CT (by simp [-List.drop_one,AaG,F21] <;> omega) ?_;refine SQ [] [none,none,none] fun _ _ g r=>?_;try simp [-List.drop_one,AaG,F21]
         and_intros <;> first | exact GK g | apply r | omega | (simp [-List.drop_one,AaG,maxLen,F21] <;> omega)
         refine WK [(1,AV.lst false false (List.map (sl (AV.int .i64)) v1)),(5,AV.ptr 0 0),(9,AV.ptr 4 0),(10,Iz v16),(11,Iz v18),(12,AV.lst false false (List.map (sl (AV.int .i64)) v20)),(89,AV.bool (decide (1<(v20.length : Int))))] [(0,Ci v2),(4,.cells [Iz v12,Q0 v13,Lz v14])] 6 (by simp [-List.drop_one,AaG,F21]) (by simp [-List.drop_one,AaG,F21]) ?_;by_cases h89 : 1<(v20.length : Int)
         ·replace hF:=AaZ h89 hF;have h89_:=h89;try simp at h89_
          have F22:=A3 F21 h89 h89_;refine CT (by simp [-List.drop_one,AaG,F22] <;> omega) ?_;refine RG [] [none,none,none] fun _ _ g r=>?_;obtain ⟨h90,hF⟩:=AaR hF;have h90_:=h90;try simp at h90_
          have F23:=A3 F22 h90 h90_;try simp [-List.drop_one,AaG,F23]
          and_intros <;> first | exact GK g | apply r | omega | (simp [-List.drop_one,AaG,maxLen,F23] <;> omega)
          refine hK218 _ _ _ ?_;refine RN h0 [(0,0),(1,4)] [(1,AV.lst false false (List.map (sl (AV.int .i64)) v1)),(5,AV.ptr 0 0),(9,AV.ptr 1 0),(10,Iz v16),(11,Iz v18),(12,AV.lst false false (List.map (sl (AV.int .i64)) (v20.drop (1 : Int).toNat)))] [(0,Ci v2),(1,.cells [Iz v12,Q0 v13,Lz v14])] 2 (by simp [-List.drop_one,AaG,F23]) (by simp [-List.drop_one,AaG,F23]) ?_;exact JN (v20.drop (1 : Int).toNat) hF (by simp [-List.drop_one,AaG,F23]) (by simp [-List.drop_one,AaG,F23])
         ·replace hF:=Aaa h89 hF;have h89_:=h89;try simp at h89_
          have F24:=A3 F21 h89 h89_;refine CF (by simp [-List.drop_one,AaG,F24] <;> omega) ?_;refine AW.skip ?_;refine hK218 _ _ _ ?_;refine RN h0 [(0,0),(1,4)] [(1,AV.lst false false (List.map (sl (AV.int .i64)) v1)),(5,AV.ptr 0 0),(9,AV.ptr 1 0),(10,Iz v16),(11,Iz v18),(12,AV.lst false false (List.map (sl (AV.int .i64)) v20))] [(0,Ci v2),(1,.cells [Iz v12,Q0 v13,Lz v14])] 2 (by simp [-List.drop_one,AaG,F24]) (by simp [-List.drop_one,AaG,F24]) ?_;exact JN (v20) hF (by simp [-List.drop_one,AaG,F24]) (by simp [-List.drop_one,AaG,F24])
        ·replace hF:=Aaa h88 hF;have h88_:=AbY h88;have h88__:=Abc h88;have F25:=A4 F20 h88 h88_ h88__;refine CF (by simp [-List.drop_one,AaG,F25] <;> omega) ?_;refine AW.skip ?_;refine hK218 _ _ _ ?_;refine RN h0 [(0,0),(1,4)] [(1,AV.lst false false (List.map (sl (AV.int .i64)) v1)),(5,AV.ptr 0 0),(9,AV.ptr 1 0),(10,Iz v16),(11,Iz v18),(12,AV.lst false false (List.map (sl (AV.int .i64)) v20))] [(0,Ci v2),(1,.cells [Iz v12,Q0 v13,Lz v14])] 2 (by simp [-List.drop_one,AaG,F25]) (by simp [-List.drop_one,AaG,F25]) ?_;exact JN (v20) hF (by simp [-List.drop_one,AaG,F25]) (by simp [-List.drop_one,AaG,F25])
    ·rintro v21 hF
     try dsimp only at hF
     unfold Aai.J2 at hF;refine SQ [] [none,none,some (93,true),some (93,true),some (93,true),some (93,true),some (93,true),some (93,true),some (93,true),some (93,true),some (93,true),some (93,true),some (93,true),none,none,some (106,true),some (106,true),some (106,true),some (106,true),some (106,true),some (106,true),some (106,true),some (106,true),some (106,true),some (106,true),some (106,true),none,none,some (119,true),some (119,true),some (119,true),some (119,true),some (119,true),some (119,true),some (119,true),some (119,true),some (119,true),some (119,true),some (119,true),some (119,true),some (119,true),some (119,true),some (119,true),some (119,true),some (119,true),some (119,true),some (119,true),none,none,some (140,true),some (140,true),some (140,true),some (140,true),some (140,true),some (140,true),some (140,true),some (140,true),some (140,true),some (140,true),some (140,true),none,none] fun _ _ g r=>?_;try simp [-List.drop_one,AaG,F7]
     and_intros
     try any_goals first | omega | (simp [-List.drop_one,AaG,maxLen,F7] <;> omega)
     obtain ⟨v22,h17,hF⟩:=AaN hF;refine AC (Adb k _ h17) .nil ?_;by_cases h18 : v22=true
     ·replace hF:=AaZ h18 hF;have h18_:=h18;try simp at h18_
      have F26:=A3 F7 h18 h18_;try simp [-List.drop_one,AaG,F26]
      and_intros
      try any_goals first | omega | (simp [-List.drop_one,AaG,maxLen,F26] <;> omega)
      obtain ⟨v23,h19,hF⟩:=AaN hF;refine AC (Acb k _ _ _ _ _ _ _ _ h19) (.cons (.same (by simp [-List.drop_one,AaG,F26] <;> omega)) (.cons (.same (by simp [-List.drop_one,AaG,F26] <;> omega)) (.cons (.same (by simp [-List.drop_one,AaG,F26] <;> omega)) (.cons (.same (by simp [-List.drop_one,AaG,F26] <;> omega)) (.cons (.same (by simp [-List.drop_one,AaG,F26] <;> omega)) .nil))))) ?_;try simp [-List.drop_one,AaG,F26]
      and_intros
      try any_goals first | omega | (simp [-List.drop_one,AaG,maxLen,F26] <;> omega)
      obtain ⟨v24,h20,hF⟩:=AaN hF;refine AC (AdZ k _ _ _ _ _ _ _ _ h20) (.cons (.same (by simp [-List.drop_one,AaG,F26] <;> omega)) (.cons (.same (by simp [-List.drop_one,AaG,F26] <;> omega)) (.cons (.same (by simp [-List.drop_one,AaG,F26] <;> omega)) (.cons (.same (by simp [-List.drop_one,AaG,F26] <;> omega)) (.cons (.same (by simp [-List.drop_one,AaG,F26] <;> omega)) .nil))))) ?_;by_cases h21 : (v23==v24)=true
      ·replace hF:=AaZ h21 hF;have h21_:=h21;try simp at h21_
       have F27:=A3 F26 h21 h21_;try simp [-List.drop_one,AaG,F27]
       and_intros
       try any_goals first | omega | (simp [-List.drop_one,AaG,maxLen,F27] <;> omega)
       obtain ⟨v25,h22,hF⟩:=AaN hF;refine AC (Acb k _ _ _ _ _ _ _ _ h22) (.cons (.same (by simp [-List.drop_one,AaG,F27] <;> omega)) (.cons (.same (by simp [-List.drop_one,AaG,F27] <;> omega)) (.cons (.same (by simp [-List.drop_one,AaG,F27] <;> omega)) (.cons (.same (by simp [-List.drop_one,AaG,F27] <;> omega)) (.cons (.same (by simp [-List.drop_one,AaG,F27] <;> omega)) .nil))))) ?_;try simp [-List.drop_one,AaG,F27]
       and_intros
       try any_goals first | omega | (simp [-List.drop_one,AaG,maxLen,F27] <;> omega)
       obtain ⟨v26,h23,hF⟩:=AaN hF;refine AC (AdZ k _ _ _ _ _ _ _ _ h23) (.cons (.same (by simp [-List.drop_one,AaG,F27] <;> omega)) (.cons (.same (by simp [-List.drop_one,AaG,F27] <;> omega)) (.cons (.same (by simp [-List.drop_one,AaG,F27] <;> omega)) (.cons (.same (by simp [-List.drop_one,AaG,F27] <;> omega)) (.cons (.same (by simp [-List.drop_one,AaG,F27] <;> omega)) .nil))))) ?_;by_cases h24 : (v25==v26)=true
       ·replace hF:=AaZ h24 hF;have h24_:=h24;try simp at h24_
        obtain ⟨⟨h25,h27,h26⟩,hF⟩:=AaR hF;have h26_:=Aa3 h26;obtain ⟨v27,h28,h29,h30,hF⟩:=Aad hF;have h30_:=Aas h30;try simp at h30_
        have h29_:=h29;try simp at h29_
        have h30z:=Aew h30;obtain ⟨⟨h31,h33,h32⟩,hF⟩:=AaR hF;have h32_:=Aa3 h32;obtain ⟨v28,h34,h35,h36,hF⟩:=Aad hF;have h36_:=Aas h36;try simp at h36_
        have h35_:=h35;try simp at h35_
        obtain ⟨⟨h37,h39,h38⟩,hF⟩:=AaR hF;have h38_:=Aa3 h38;obtain ⟨v29,h40,h41,h42,hF⟩:=Aad hF;have h42_:=Aas h42;try simp at h42_
        have h41_:=h41;try simp at h41_
        have F28:=A9 F27 h24 h24_ h25 h26 h27 h26_ h28 (A9 h29 h30 h30_ h29_ h30z h31 h32 h33 (A9 h32_ h34 h35 h36 h36_ h35_ h37 h38 (A7 h39 h38_ h40 h41 h42 h42_ h41_)));try simp [-List.drop_one,AaG,F28]
        and_intros
        try any_goals first | omega | (simp [-List.drop_one,AaG,maxLen,F28] <;> omega)
        obtain ⟨v30,h43,hF⟩:=AaN hF;refine AC (Acb k _ _ _ _ _ _ _ _ h43) (.cons (.same (by simp [-List.drop_one,AaG,F28] <;> omega)) (.cons (.same (by simp [-List.drop_one,AaG,F28] <;> omega)) (.cons (.same (by simp [-List.drop_one,AaG,F28] <;> omega)) (.cons (.same (by simp [-List.drop_one,AaG,F28] <;> omega)) (.cons (.same (by simp [-List.drop_one,AaG,F28] <;> omega)) .nil))))) ?_;obtain ⟨⟨h44,h46,h45⟩,hF⟩:=AaR hF;have h45_:=Aa3 h45;obtain ⟨⟨h47,h49,h48⟩,hF⟩:=AaR hF;have h48_:=Aa3 h48;obtain ⟨⟨h50,h52,h51⟩,hF⟩:=AaR hF;have h51_:=Aa3 h51;have F29:=A9 F28 h44 h45 h46 h45_ h47 h48 h49 (A5 h48_ h50 h51 h52 h51_);try simp [-List.drop_one,AaG,F29]
        and_intros
        try any_goals first | omega | (simp [-List.drop_one,AaG,maxLen,F29] <;> omega)
        obtain ⟨v31,h53,hF⟩:=AaN hF;refine AC (AdZ k _ _ _ _ _ _ _ _ h53) (.cons (.same (by simp [-List.drop_one,AaG,F29] <;> omega)) (.cons (.same (by simp [-List.drop_one,AaG,F29] <;> omega)) (.cons (.same (by simp [-List.drop_one,AaG,F29] <;> omega)) (.cons (.same (by simp [-List.drop_one,AaG,F29] <;> omega)) (.cons (.same (by simp [-List.drop_one,AaG,F29] <;> omega)) .nil))))) ?_;by_cases h54 : (v30==v31)=true
        ·replace hF:=AaZ h54 hF;have h54_:=h54;try simp at h54_
         have F30:=A3 F29 h54 h54_;try simp [-List.drop_one,AaG,F30]
         and_intros
         try any_goals first | omega | (simp [-List.drop_one,AaG,maxLen,F30] <;> omega)
         obtain ⟨v32,h55,hF⟩:=AaN hF;refine AC (Acb k _ _ _ _ _ _ _ _ h55) (.cons (.same (by simp [-List.drop_one,AaG,F30] <;> omega)) (.cons (.same (by simp [-List.drop_one,AaG,F30] <;> omega)) (.cons (.same (by simp [-List.drop_one,AaG,F30] <;> omega)) (.cons (.same (by simp [-List.drop_one,AaG,F30] <;> omega)) (.cons (.same (by simp [-List.drop_one,AaG,F30] <;> omega)) .nil))))) ?_;try simp [-List.drop_one,AaG,F30]
         and_intros
         try any_goals first | omega | (simp [-List.drop_one,AaG,maxLen,F30] <;> omega)
         obtain ⟨v33,h56,hF⟩:=AaN hF;refine AC (AdZ k _ _ _ _ _ _ _ _ h56) (.cons (.same (by simp [-List.drop_one,AaG,F30] <;> omega)) (.cons (.same (by simp [-List.drop_one,AaG,F30] <;> omega)) (.cons (.same (by simp [-List.drop_one,AaG,F30] <;> omega)) (.cons (.same (by simp [-List.drop_one,AaG,F30] <;> omega)) (.cons (.same (by simp [-List.drop_one,AaG,F30] <;> omega)) .nil))))) ?_;try simp [-List.drop_one,AaG,F30]
         and_intros <;> first | exact GK g | apply r | omega | (simp [-List.drop_one,AaG,maxLen,F30] <;> omega)
         refine WK [(6,AV.bool (v32==v33))] [] 2 (by simp [-List.drop_one,AaG,F30]) (by simp [-List.drop_one,AaG,F30]) ?_;simp only [Option.some.injEq] at hF;subst hF;refine AW.ret (hQ _ _ _ ?_ (AaJ ?_)).1
         ·simp [Try.f6,F30]
         ·simp [F30]
        ·replace hF:=Aaa h54 hF;have h54_:=h54;try simp at h54_
         have F31:=A3 F29 h54 h54_;try simp [-List.drop_one,AaG,F31]
         and_intros <;> first | exact GK g | apply r | omega | (simp [-List.drop_one,AaG,maxLen,F31] <;> omega)
         refine WK [(6,AV.bool false)] [] 2 (by simp [-List.drop_one,AaG,F31]) (by simp [-List.drop_one,AaG,F31]) ?_;simp only [Option.some.injEq] at hF;subst hF;refine AW.ret (hQ _ _ _ ?_ (AaJ ?_)).1
         ·simp [Try.f6,F31]
         ·simp [F31]
       ·replace hF:=Aaa h24 hF;have h24_:=h24;try simp at h24_
        have F32:=A3 F27 h24 h24_;try simp [-List.drop_one,AaG,F32]
        and_intros <;> first | exact GK g | apply r | omega | (simp [-List.drop_one,AaG,maxLen,F32] <;> omega)
        refine WK [(6,AV.bool false)] [] 2 (by simp [-List.drop_one,AaG,F32]) (by simp [-List.drop_one,AaG,F32]) ?_;simp only [Option.some.injEq] at hF;subst hF;refine AW.ret (hQ _ _ _ ?_ (AaJ ?_)).1
        ·simp [Try.f6,F32]
        ·simp [F32]
      ·replace hF:=Aaa h21 hF;have h21_:=h21;try simp at h21_
       have F33:=A3 F26 h21 h21_;try simp [-List.drop_one,AaG,F33]
       and_intros <;> first | exact GK g | apply r | omega | (simp [-List.drop_one,AaG,maxLen,F33] <;> omega)
       refine WK [(6,AV.bool false)] [] 2 (by simp [-List.drop_one,AaG,F33]) (by simp [-List.drop_one,AaG,F33]) ?_;simp only [Option.some.injEq] at hF;subst hF;refine AW.ret (hQ _ _ _ ?_ (AaJ ?_)).1
       ·simp [Try.f6,F33]
       ·simp [F33]
     ·replace hF:=Aaa h18 hF;have h18_:=h18;try simp at h18_
      have F34:=A3 F7 h18 h18_;try simp [-List.drop_one,AaG,F34]
      and_intros <;> first | exact GK g | apply r | omega | (simp [-List.drop_one,AaG,maxLen,F34] <;> omega)
      refine WK [(6,AV.bool false)] [] 2 (by simp [-List.drop_one,AaG,F34]) (by simp [-List.drop_one,AaG,F34]) ?_;simp only [Option.some.injEq] at hF;subst hF;refine AW.ret (hQ _ _ _ ?_ (AaJ ?_)).1
      ·simp [Try.f6,F34]
      ·simp [F34]
end Go.TF
