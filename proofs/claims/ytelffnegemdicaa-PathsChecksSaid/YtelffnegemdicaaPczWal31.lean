import Derived.Test.YtelffnegemdicaaPczWal30
set_option linter.unusedVariables false
set_option linter.unusedSimpArgs false
set_option maxRecDepth 100000
set_option maxHeartbeats 4000000
namespace Go.TF
open Go Go.Abs Go.Proofs Go.Proofs.YtelffnegemdicaaPcT
theorem Aiv (k : Nat) (v0 : (List Int)) (v1 : Bool) (hF : AfC k v0=some v1) :
 AbF Try.prog 9 [AV.lst false false (List.map (AV.int .i64) v0)] [] (AV.bool v1) []:=by
 unfold AfC at hF;refine EN Try.func9 ?_;intro c0 w0 Q h0 hQ
 refine WK [(0,Lz v0)] [] 0 (by simp) (by simp) ?_;refine SW trivial [] [none] [] [] [] [] 0 ?_;refine SW trivial [] [none,none,none,none] [0] [(2,AV.bool (decide ((v0.length : Int)≤400)))] [] [] 0 ?_;simp only [Option.some.injEq] at hF;subst hF;refine AW.ret (hQ _ _ _ ?_ (AaJ ?_)).1
 ·simp [Try.f9]
 ·simp
theorem Acr (k : Nat) (v0 : Int) (v1 : Int) (v2 : Int) (v3 : Bool) (hF : Acm k v0 v1 v2=some v3) :
 AbF Try.prog 68 [AV.int .i64 v0,AV.int .i64 v1,AV.int .i64 v2] [] (AV.bool v3) []:=by
 unfold Acm at hF;refine EN Try.func68 ?_;intro c0 w0 Q h0 hQ
 refine WK [(0,Iz v0),(1,Iz v1),(2,Iz v2)] [] 0 (by simp) (by simp) ?_;refine SW trivial [] [none] [] [] [] [] 0 ?_;refine SR [] [none,none,none,none,some (10,true),some (10,true),some (10,true),none,none] fun _ _ g r=>?_;by_cases h1 : v1≤v0
 ·replace hF:=AaZ h1 hF;have h1_:=h1;try simp at h1_
  refine TL (A2 h1 h1_) g r [0,1,2] [(6,AV.bool (decide (v0≤v2)))] [] [] 0 ?_;simp only [Option.some.injEq] at hF;subst hF;refine AW.ret (hQ _ _ _ ?_ (AaJ ?_)).1
  ·simp [Try.f68,h1,h1_]
  ·simp [h1,h1_]
 ·replace hF:=Aaa h1 hF;have h1_:=h1;try simp at h1_
  refine TL (A2 h1 h1_) g r [0,1,2] [(6,AV.bool false)] [] [] 0 ?_;simp only [Option.some.injEq] at hF;subst hF;refine AW.ret (hQ _ _ _ ?_ (AaJ ?_)).1
  ·simp [Try.f68,h1,h1_]
  ·simp [h1,h1_]
theorem Ada (k : Nat) (v0 : Int) (v1 : (List AaA)) (v2 : (List Int)) (v3 : Int) (v4 : Int) (v5 : Int) (v6 : Bool) (hF : AcW k v0 v1 v2 v3 v4 v5=some v6) :
 AbF Try.prog 58 [AV.agg [AV.int .i64 v0,Q0 v1,AV.lst false false (List.map (AV.int .i64) v2)],AV.int .i64 v3,AV.int .i64 v4,AV.int .i64 v5] [] (AV.bool v6) []:=by
 unfold AcW at hF;refine EN Try.func58 ?_;intro c0 w0 Q h0 hQ
 refine WK [(0,AV.agg [Iz v0,Q0 v1,Lz v2]),(1,Iz v3),(2,Iz v4),(3,Iz v5)] [] 0 (by simp) (by simp) ?_;refine SW trivial [] [none,none] [0] [(4,AV.ptr 0 0)] [] [(0,.cells [Iz v0,Q0 v1,Lz v2])] 1 ?_;refine SR [] [none,none,none,some (11,true),some (11,true),some (11,true),some (11,true),some (11,true),none,none,some (18,true),some (18,true),some (18,true),some (18,true),some (18,true),none,none,some (25,true),some (25,true),some (25,true),none,none] fun _ _ g r=>?_;try simp
 and_intros
 try any_goals first | omega | (simp [maxLen] <;> omega)
 obtain ⟨v7,h1,hF⟩:=AaN hF;refine AC (Acr k _ _ _ _ h1) (.cons (.same (by simp)) (.cons (.same (by simp)) (.cons (.same (by simp)) .nil))) ?_;by_cases h2 : v7=true
 ·replace hF:=AaZ h2 hF;have h2_:=h2;try simp at h2_
  try simp [h2,h2_]
  and_intros
  try any_goals first | omega | (simp [h2,h2_,maxLen] <;> omega)
  obtain ⟨v8,h3,hF⟩:=AaN hF;refine AC (Acr k _ _ _ _ h3) (.cons (.same (by simp [h2,h2_])) (.cons (.same (by simp [h2,h2_])) (.cons (.same (by simp [h2,h2_])) .nil))) ?_;by_cases h4 : v8=true
  ·replace hF:=AaZ h4 hF;have h4_:=h4;try simp at h4_
   have F1:=A4 h2 h2_ h4 h4_;try simp [F1]
   and_intros
   try any_goals first | omega | (simp [maxLen,F1] <;> omega)
   obtain ⟨v9,h5,hF⟩:=AaN hF;refine AC (Acr k _ _ _ _ h5) (.cons (.same (by simp [F1])) (.cons (.same (by simp [F1])) (.cons (.same (by simp [F1])) .nil))) ?_;by_cases h6 : v9=true
   ·replace hF:=AaZ h6 hF;have h6_:=h6;try simp at h6_
    have F2:=A3 F1 h6 h6_;refine TL F2 g r [1,2,3,4] [(8,AV.bool (v4 !=v5))] [0] [] 1 ?_;simp only [Option.some.injEq] at hF;subst hF;refine AW.ret (hQ _ _ _ ?_ (AaJ ?_)).1
    ·simp [Try.f58,F2]
    ·simp [F2]
   ·replace hF:=Aaa h6 hF;have h6_:=h6;try simp at h6_
    have F3:=A3 F1 h6 h6_;refine TL F3 g r [1,2,3,4] [(8,AV.bool false)] [0] [] 1 ?_;simp only [Option.some.injEq] at hF;subst hF;refine AW.ret (hQ _ _ _ ?_ (AaJ ?_)).1
    ·simp [Try.f58,F3]
    ·simp [F3]
  ·replace hF:=Aaa h4 hF;have h4_:=h4;try simp at h4_
   have F4:=A4 h2 h2_ h4 h4_;refine TL F4 g r [1,2,3,4] [(8,AV.bool false)] [0] [] 1 ?_;simp only [Option.some.injEq] at hF;subst hF;refine AW.ret (hQ _ _ _ ?_ (AaJ ?_)).1
   ·simp [Try.f58,F4]
   ·simp [F4]
 ·replace hF:=Aaa h2 hF;have h2_:=h2;try simp at h2_
  refine TL (A2 h2 h2_) g r [1,2,3,4] [(8,AV.bool false)] [0] [] 1 ?_;simp only [Option.some.injEq] at hF;subst hF;refine AW.ret (hQ _ _ _ ?_ (AaJ ?_)).1
  ·simp [Try.f58,h2,h2_]
  ·simp [h2,h2_]
theorem Ac2 (k : Nat) (v0 : Int) (v1 : Int) (hF : Aco k v0=some v1) :
 AbF Try.prog 86 [AV.int .i64 v0] [] (AV.int .i64 v1) []:=by
 unfold Aco at hF;refine EN Try.func86 ?_;intro c0 w0 Q h0 hQ
 refine WK [(0,Iz v0)] [] 0 (by simp) (by simp) ?_;refine SW trivial [] [none] [] [] [] [] 0 ?_;refine SW trivial [] [none,none,none,none] [0] [(2,Iz (IntKind.wrap .i64 (2+IntKind.wrap .i64 (2*v0))))] [] [] 0 ?_;simp only [Option.some.injEq] at hF;subst hF;refine AW.ret (hQ _ _ _ ?_ (AaJ ?_)).1
 ·simp [Try.f86]
 ·simp
theorem Aeg (k : Nat) (v0 : Int) (v1 : (List AaA)) (v2 : (List Int)) (v3 : Int) (v4 : Int) (v5 : Int) (v6 : Int) (v7 : (List AaI)) (hF : AaY k v0 v1 v2 v3 v4 v5=some (v6,v7)) :
 AbF Try.prog 61 [AV.agg [AV.int .i64 v0,Q0 v1,AV.lst false false (List.map (AV.int .i64) v2)],AV.int .i64 v3,AV.int .i64 v4,AV.int .i64 v5] [] (AV.agg [AV.int .i64 v6,AV.slc 0 0 3 v7.length false]) [some (.grow (AaM (List.map AaI.av v7)))]:=by
 unfold AaY at hF;refine EN Try.func61 ?_;intro c0 w0 Q h0 hQ
 refine WK [(0,AV.agg [Iz v0,Q0 v1,Lz v2]),(1,Iz v3),(2,Iz v4),(3,Iz v5)] [] 0 (by simp) (by simp) ?_;refine SW trivial [] [none,none] [0] [(4,AV.ptr 0 0),(8,AV.ptr 1 0)] [] [(0,.cells [Iz v0,Q0 v1,Lz v2]),(1,.cells [Iz 0,AV.lst true true (List.map AaI.av ([] : List AaI))])] 2 ?_;obtain ⟨v8,h1,hF⟩:=AaN hF;refine CL trivial [] [none,none,none,none,none,none] (Ac2 k _ _ h1) [] [(9,AV.ptr 2 0)] [] [(2,.cells [Iz v8,AV.lst true true (List.map AaI.av ([] : List AaI))])] 3 ?_;refine AW.seq fun K426 hK426=>?_;refine SW trivial [] [none,none,none] [] [(19,Iz v0),(20,Iz 0)] [] [] 3 ?_;refine AW.block ?_;refine AW.ownC 1 1 3 true (cs:=[Iz 0,AV.lst true true (List.map AaI.av ([] : List AaI))]) (by simp) (by simp) ?_;refine AW.ownC 2 1 3 true (cs:=[Iz v8,AV.lst true true (List.map AaI.av ([] : List AaI))]) (by simp) (by simp) ?_;refine RM h0 [(0,0),(1,1),(2,3),(3,2),(4,4)] [(1,Iz v3),(2,Iz v4),(3,Iz v5),(4,AV.ptr 0 0),(8,AV.ptr 1 0),(9,AV.ptr 3 0),(19,Iz v0),(20,Iz 0)] [(0,.cells [Iz v0,Q0 v1,Lz v2]),(1,.cells [Iz 0,AV.slc 2 0 3 (([] : List AaI).length) false]),(2,.grow (AaM (List.map AaI.av ([] : List AaI)))),(3,.cells [Iz v8,AV.slc 4 0 3 (([] : List AaI).length) false]),(4,.grow (AaM (List.map AaI.av ([] : List AaI))))] 5 (by simp) (by simp) ?_;refine AW.loopF (α:=(Int×(List AaI))) (fun n (v9,v10)=>AaY.L1 k v0 v1 v3 v4 v5 v8 n v9 v10=some (v6,v7)) (fun (v9,v10)=>[(1,Iz v3),(2,Iz v4),(3,Iz v5),(4,AV.ptr 0 0),(8,AV.ptr 1 0),(9,AV.ptr 3 0),(19,Iz v0),(20,Iz v9)]) (fun (v9,v10)=>[(0,.cells [Iz v0,Q0 v1,Lz v2]),(1,.cells [Iz 0,AV.slc 2 0 3 (([] : List AaI).length) false]),(2,.grow (AaM (List.map AaI.av ([] : List AaI)))),(3,.cells [Iz v8,AV.slc 4 0 3 v10.length false]),(4,.grow (AaM (List.map AaI.av v10)))]) 5 k ((0,([] : List AaI))) hF (by simp) (by simp) (by simp) ?_;rintro (_|n1) ⟨v9,v10⟩ hF K458 hK458
 ·try dsimp only at hF
  rw [AaY.L1] at hF; cases hF
 try dsimp only at hF
 rw [AaY.L1] at hF;refine SW trivial [] [none] [] [(21,AV.bool (decide (v9<v0)))] [] [] 5 ?_;refine AW.seq fun K460 hK460=>?_;by_cases h2 : v9<v0
 ·replace hF:=AaZ h2 hF;have h2_:=h2;try simp at h2_
  refine CT (by simp [h2,h2_] <;> omega) ?_;refine AW.skip ?_;refine hK460 _ _ _ ?_;refine AW.midF (α:=(List AaI)) (fun v11=>AaY.J2 k v9 (fun v9_ v10_=>AaY.L1 k v0 v1 v3 v4 v5 v8 n1 v9_ v10_) v11=some (v6,v7)) (fun v11=>[(1,Iz v3),(2,Iz v4),(3,Iz v5),(4,AV.ptr 0 0),(8,AV.ptr 1 0),(9,AV.ptr 3 0),(19,Iz v0),(20,Iz v9)]) (fun v11=>[(0,.cells [Iz v0,Q0 v1,Lz v2]),(1,.cells [Iz 0,AV.slc 2 0 3 (([] : List AaI).length) false]),(2,.grow (AaM (List.map AaI.av ([] : List AaI)))),(3,.cells [Iz v8,AV.slc 4 0 3 v11.length false]),(4,.grow (AaM (List.map AaI.av v11)))]) 5 (fun K465 hK465=>?_) ?_
  ·refine AW.block ?_;refine SW (A2 h2 h2_) [] [none,none] [] [(10,Iz v9)] [] [] 5 ?_;refine SR [] [none,none,none,none,some (26,true),some (26,true),some (26,true),none] fun _ _ g r=>?_;by_cases h3 : v9≠v4
   ·replace hF:=AaZ h3 hF;have h3_:=AbY h3;have h3__:=Abc h3;have F1:=A5 h2 h2_ h3 h3_ h3__;refine TL F1 g r [] [(30,AV.bool (v9 !=v5))] [] [] 5 ?_;by_cases h4 : v9≠v5
    ·replace hF:=AaZ h4 hF;have h4_:=AbY h4;have h4__:=Abc h4;have F2:=A4 F1 h4 h4_ h4__;refine CT (by simp [F2] <;> omega) ?_;refine RG [] [none,none,none,none,none,none,none,none,none,none,none,none] fun _ _ g r=>?_;try simp [F2]
     and_intros
     try any_goals first | omega | (simp [maxLen,F2] <;> omega)
     obtain ⟨v12,h5,hF⟩:=AaN hF;refine AC (Ac2 k _ _ h5) (.cons (.same (by simp [F2])) .nil) ?_;try simp [F2]
     and_intros
     try any_goals first | omega | (simp [maxLen,F2] <;> omega)
     obtain ⟨v13,h6,hF⟩:=AaN hF;refine AC (Ac2 k _ _ h6) (.cons (.same (by simp [F2])) .nil) ?_;obtain ⟨h7,hF⟩:=AaR hF;have h7_:=h7;try simp at h7_
     have F3:=A2 F2 h7;try simp [F3]
     and_intros <;> first | exact GK g | apply r | omega | (simp [maxLen,F3] <;> omega)
     refine hK465 _ _ _ ?_;refine RN h0 [(0,0),(1,1),(2,2),(3,3),(4,5)] [(1,Iz v3),(2,Iz v4),(3,Iz v5),(4,AV.ptr 0 0),(8,AV.ptr 1 0),(9,AV.ptr 3 0),(19,Iz v0),(20,Iz v9)] [(0,.cells [Iz v0,Q0 v1,Lz v2]),(1,.cells [Iz 0,AV.slc 2 0 3 (([] : List AaI).length) false]),(2,.grow (AaM (List.map AaI.av ([] : List AaI)))),(3,.cells [Iz v8,AV.slc 4 0 3 ((v10++([(AaI.mk v12 (IntKind.wrap .i64 (v13+1)) 1)] : List AaI)).length) false]),(4,.grow (AaM (List.map AaI.av (v10++([(AaI.mk v12 (IntKind.wrap .i64 (v13+1)) 1)] : List AaI)))))] 5 (by simp [F3]) (by simp [F3] <;> omega) ?_;exact JN (v10++([(AaI.mk v12 (IntKind.wrap .i64 (v13+1)) 1)] : List AaI)) hF (by simp [F3]) (by simp [F3])
    ·replace hF:=Aaa h4 hF;have h4q : v9=v5:=Classical.not_not.1 h4;have h4_:=Abf h4q;have h4__:=Abe h4q;have F4:=A3 F1 h4_ h4__;refine CF (by simp [F4] <;> omega) ?_;refine AW.skip ?_;refine hK465 _ _ _ ?_;exact JN (v10) hF (by simp [F4]) (by simp [F4])
   ·replace hF:=Aaa h3 hF;have h3q : v9=v4:=Classical.not_not.1 h3;have h3_:=Abf h3q;have h3__:=Abe h3q;have F5:=A4 h2 h2_ h3_ h3__;refine TL F5 g r [] [(30,AV.bool false)] [] [] 5 ?_;refine CF (by simp [F5]) ?_;refine AW.skip ?_;refine hK465 _ _ _ ?_;exact JN (v10) hF (by simp [F5]) (by simp [F5])
  ·rintro v11 hF
   try dsimp only at hF
   unfold AaY.J2 at hF;refine RG [] [none,none] fun _ _ g r=>?_;try simp [h2,h2_]
   and_intros <;> first | exact GK g | apply r | omega | (simp [h2,h2_,maxLen] <;> omega)
   refine hK458 _ _ _ ?_;exact NX (k':=n1) ((IntKind.wrap .i64 (v9+1),v11)) hF (by simp [h2,h2_]) (by simp [h2,h2_])
 ·replace hF:=Aaa h2 hF;have h2_:=h2;try simp at h2_
  refine CF (by simp [h2,h2_] <;> omega) ?_;refine AW.exit ?_;try simp
  refine hK426 _ _ _ ?_;refine AW.seq fun K615 hK615=>?_;refine SW (A2 h2 h2_) [] [none,none,none,none] [4,19,20] [(44,Q0 v1),(45,Iz (v1.length : Int)),(46,Iz 0)] [0] [] 5 ?_;refine AW.block ?_;refine RM h0 [(0,1),(1,2),(2,3),(3,4)] [(1,Iz v3),(2,Iz v4),(3,Iz v5),(8,AV.ptr 0 0),(9,AV.ptr 2 0),(44,Q0 v1),(45,Iz (v1.length : Int)),(46,Iz 0)] [(0,.cells [Iz 0,AV.slc 1 0 3 (([] : List AaI).length) false]),(1,.grow (AaM (List.map AaI.av ([] : List AaI)))),(2,.cells [Iz v8,AV.slc 3 0 3 v10.length false]),(3,.grow (AaM (List.map AaI.av v10)))] 4 (by simp [h2,h2_]) (by simp [h2,h2_]) ?_;refine AW.loopF (α:=(Int×(List AaI))) (fun n (v14,v15)=>AaY.L3 k v1 v3 v4 v5 v8 n v14 v15=some (v6,v7)) (fun (v14,v15)=>[(1,Iz v3),(2,Iz v4),(3,Iz v5),(8,AV.ptr 0 0),(9,AV.ptr 2 0),(44,Q0 v1),(45,Iz (v1.length : Int)),(46,Iz v14)]) (fun (v14,v15)=>[(0,.cells [Iz 0,AV.slc 1 0 3 (([] : List AaI).length) false]),(1,.grow (AaM (List.map AaI.av ([] : List AaI)))),(2,.cells [Iz v8,AV.slc 3 0 3 v15.length false]),(3,.grow (AaM (List.map AaI.av v15)))]) 4 k ((0,v10)) hF (by simp [h2,h2_]) (by simp [h2,h2_]) (by simp) ?_;rintro (_|n3) ⟨v14,v15⟩ hF K725 hK725
  ·try dsimp only at hF
   rw [AaY.L3] at hF; cases hF
  try dsimp only at hF
  rw [AaY.L3] at hF;refine SW (A2 h2 h2_) [] [none] [] [(47,AV.bool (decide (v14<(v1.length : Int))))] [] [] 4 ?_;refine AW.seq fun K727 hK727=>?_;by_cases h8 : v14<(v1.length : Int)
  ·replace hF:=AaZ h8 hF;have h8_:=h8;try simp at h8_
   have F6:=A4 h2 h2_ h8 h8_;refine CT (by simp [F6] <;> omega) ?_;refine AW.skip ?_;refine hK727 _ _ _ ?_;refine AW.midF (α:=(List AaI)) (fun v16=>AaY.J4 k v14 (fun v14_ v15_=>AaY.L3 k v1 v3 v4 v5 v8 n3 v14_ v15_) v16=some (v6,v7)) (fun v16=>[(1,Iz v3),(2,Iz v4),(3,Iz v5),(8,AV.ptr 0 0),(9,AV.ptr 2 0),(44,Q0 v1),(45,Iz (v1.length : Int)),(46,Iz v14)]) (fun v16=>[(0,.cells [Iz 0,AV.slc 1 0 3 (([] : List AaI).length) false]),(1,.grow (AaM (List.map AaI.av ([] : List AaI)))),(2,.cells [Iz v8,AV.slc 3 0 3 v16.length false]),(3,.grow (AaM (List.map AaI.av v16)))]) 4 (fun K745 hK745=>?_) ?_
   ·refine AW.block ?_;refine SR [] [none,none,none,none] fun _ _ g r=>?_;obtain ⟨v17,h9,h10,h11,hF⟩:=Aad hF;have h11_:=Aas h11;try simp at h11_
    have h10_:=h10;try simp at h10_
    have F7:=A6 F6 h9 h10 h11 h11_ h10_;refine TL F7 g r [] [(12,AV.ptr 4 0)] [] [(4,.cells [Iz v17.From,Iz v17.To,Iz v17.Level])] 5 ?_;refine AW.seq fun K748 hK748=>?_;refine SR [] [none,none,none,none,none,some (54,false),some (54,false),some (54,false),some (54,false),none,none,some (60,false),some (60,false),some (60,false),some (60,false),none] fun _ _ g r=>?_;by_cases h12 : v17.Level<v3
    ·replace hF:=AaZ h12 hF;have h12_:=h12;try simp at h12_
     have F8:=A3 F7 h12 h12_;refine TL F8 g r [] [(65,AV.bool true)] [] [] 5 ?_;refine CT (by simp [F8]) ?_;refine AW.exit ?_;try simp
     refine hK745 _ _ _ ?_;refine RN h0 [(0,0),(1,1),(2,2),(3,3)] [(1,Iz v3),(2,Iz v4),(3,Iz v5),(8,AV.ptr 0 0),(9,AV.ptr 2 0),(44,Q0 v1),(45,Iz (v1.length : Int)),(46,Iz v14)] [(0,.cells [Iz 0,AV.slc 1 0 3 (([] : List AaI).length) false]),(1,.grow (AaM (List.map AaI.av ([] : List AaI)))),(2,.cells [Iz v8,AV.slc 3 0 3 v15.length false]),(3,.grow (AaM (List.map AaI.av v15)))] 4 (by simp [F8]) (by simp [F8]) ?_;exact JN (v15) hF (by simp [F8]) (by simp [F8])
    ·replace hF:=Aaa h12 hF;have h12_:=h12;try simp at h12_
     by_cases h13 : v17.To=v4
     ·replace hF:=AaZ h13 hF;have h13q : v17.To=v4:=h13;have h13_:=Abf h13q;have h13__:=Abe h13q;have F9:=A5 F7 h12 h12_ h13_ h13__;refine TL F9 g r [] [(65,AV.bool true)] [] [] 5 ?_;refine CT (by simp [F9]) ?_;refine AW.exit ?_;try simp
      refine hK745 _ _ _ ?_;refine RN h0 [(0,0),(1,1),(2,2),(3,3)] [(1,Iz v3),(2,Iz v4),(3,Iz v5),(8,AV.ptr 0 0),(9,AV.ptr 2 0),(44,Q0 v1),(45,Iz (v1.length : Int)),(46,Iz v14)] [(0,.cells [Iz 0,AV.slc 1 0 3 (([] : List AaI).length) false]),(1,.grow (AaM (List.map AaI.av ([] : List AaI)))),(2,.cells [Iz v8,AV.slc 3 0 3 v15.length false]),(3,.grow (AaM (List.map AaI.av v15)))] 4 (by simp [F9]) (by simp [F9]) ?_;exact JN (v15) hF (by simp [F9]) (by simp [F9])
     ·replace hF:=Aaa h13 hF;have h13_:=AbY h13;have h13__:=Abc h13;have F10:=A6 F7 h12 h12_ h13 h13_ h13__;refine TL F10 g r [] [(65,AV.bool (v17.From==v5))] [] [] 5 ?_;by_cases h14 : v17.From=v5
      ·replace hF:=AaZ h14 hF;have h14q : v17.From=v5:=h14;have h14_:=Abf h14q;have h14__:=Abe h14q;have F11:=A3 F10 h14_ h14__;refine CT (by simp [F11] <;> omega) ?_;refine AW.exit ?_;try simp
       refine hK745 _ _ _ ?_;refine RN h0 [(0,0),(1,1),(2,2),(3,3)] [(1,Iz v3),(2,Iz v4),(3,Iz v5),(8,AV.ptr 0 0),(9,AV.ptr 2 0),(44,Q0 v1),(45,Iz (v1.length : Int)),(46,Iz v14)] [(0,.cells [Iz 0,AV.slc 1 0 3 (([] : List AaI).length) false]),(1,.grow (AaM (List.map AaI.av ([] : List AaI)))),(2,.cells [Iz v8,AV.slc 3 0 3 v15.length false]),(3,.grow (AaM (List.map AaI.av v15)))] 4 (by simp [F11]) (by simp [F11]) ?_;exact JN (v15) hF (by simp [F11]) (by simp [F11])
      ·replace hF:=Aaa h14 hF;have h14_:=AbY h14;have h14__:=Abc h14;have F12:=A4 F10 h14 h14_ h14__;refine CF (by simp [F12] <;> omega) ?_;refine AW.skip ?_;refine hK748 _ _ _ ?_;refine SR [] [none,none,none,none,none,none,none,none,none,none] fun _ _ g r=>?_;try simp [F12]
       and_intros
       try any_goals first | omega | (simp [maxLen,F12] <;> omega)
       obtain ⟨v18,h15,hF⟩:=AaN hF;refine AC (Ac2 k _ _ h15) (.cons (.same (by simp [F12])) .nil) ?_;try simp [F12]
       and_intros
       try any_goals first | omega | (simp [maxLen,F12] <;> omega)
       obtain ⟨v19,h16,hF⟩:=AaN hF;refine AC (Ac2 k _ _ h16) (.cons (.same (by simp [F12])) .nil) ?_;refine TL F12 g r [65] [(13,AV.ptr 5 0)] [] [(5,.cells [Iz (IntKind.wrap .i64 (v18+1)),Iz v19,Iz 1])] 6 ?_;refine AW.midF (α:=Int) (fun v20=>AaY.J5 k v5 v14 v15 v17 v19 (fun v14_ v15_=>AaY.L3 k v1 v3 v4 v5 v8 n3 v14_ v15_) v20=some (v6,v7)) (fun v20=>[(1,Iz v3),(2,Iz v4),(3,Iz v5),(8,AV.ptr 0 0),(9,AV.ptr 2 0),(12,AV.ptr 4 0),(13,AV.ptr 5 0),(44,Q0 v1),(45,Iz (v1.length : Int)),(46,Iz v14)]) (fun v20=>[(0,.cells [Iz 0,AV.slc 1 0 3 (([] : List AaI).length) false]),(1,.grow (AaM (List.map AaI.av ([] : List AaI)))),(2,.cells [Iz v8,AV.slc 3 0 3 v15.length false]),(3,.grow (AaM (List.map AaI.av v15))),(4,.cells [Iz v17.From,Iz v17.To,Iz v17.Level]),(5,.cells [Iz v20,Iz v19,Iz 1])]) 6 (fun K759 hK759=>?_) ?_
       ·refine SW F12 [] [none,none,none,none] [] [(77,AV.bool (v17.From==v4))] [] [] 6 ?_;by_cases h19 : v17.From=v4
        ·replace hF:=AaZ h19 hF;have h19q : v17.From=v4:=h19;have h19_:=Abf h19q;have h19__:=Abe h19q;have F13:=A3 F12 h19_ h19__;refine CT (by simp [F13] <;> omega) ?_;refine RG [] [none,none] fun _ _ g r=>?_;try simp [F13]
         and_intros <;> first | exact GK g | apply r | omega | (simp [maxLen,F13] <;> omega)
         refine hK759 _ _ _ ?_;exact JN (0) hF (by simp [F13]) (by simp [F13])
        ·replace hF:=Aaa h19 hF;have h19_:=AbY h19;have h19__:=Abc h19;have F14:=A4 F12 h19 h19_ h19__;refine CF (by simp [F14] <;> omega) ?_;refine AW.skip ?_;refine hK759 _ _ _ ?_;exact JN (IntKind.wrap .i64 (v18+1)) hF (by simp [F14]) (by simp [F14])
       ·rintro v20 hF
        try dsimp only at hF
        unfold AaY.J5 at hF;refine AW.midF (α:=Int) (fun v21=>AaY.J6 k v14 v15 v20 (fun v14_ v15_=>AaY.L3 k v1 v3 v4 v5 v8 n3 v14_ v15_) v21=some (v6,v7)) (fun v21=>[(1,Iz v3),(2,Iz v4),(3,Iz v5),(8,AV.ptr 0 0),(9,AV.ptr 2 0),(13,AV.ptr 4 0),(44,Q0 v1),(45,Iz (v1.length : Int)),(46,Iz v14)]) (fun v21=>[(0,.cells [Iz 0,AV.slc 1 0 3 (([] : List AaI).length) false]),(1,.grow (AaM (List.map AaI.av ([] : List AaI)))),(2,.cells [Iz v8,AV.slc 3 0 3 v15.length false]),(3,.grow (AaM (List.map AaI.av v15))),(4,.cells [Iz v20,Iz v21,Iz 1])]) 5 (fun K756 hK756=>?_) ?_
        ·refine SW F12 [] [none,none,none,none] [12] [(82,AV.bool (v17.To==v5))] [4] [] 6 ?_;by_cases h18 : v17.To=v5
         ·replace hF:=AaZ h18 hF;have h18q : v17.To=v5:=h18;have h18_:=Abf h18q;have h18__:=Abe h18q;have F15:=A3 F12 h18_ h18__;refine CT (by simp [F15] <;> omega) ?_;refine RG [] [none,none] fun _ _ g r=>?_;try simp [F15]
          and_intros <;> first | exact GK g | apply r | omega | (simp [maxLen,F15] <;> omega)
          refine hK756 _ _ _ ?_;refine RN h0 [(0,0),(1,1),(2,2),(3,3),(4,5)] [(1,Iz v3),(2,Iz v4),(3,Iz v5),(8,AV.ptr 0 0),(9,AV.ptr 2 0),(13,AV.ptr 4 0),(44,Q0 v1),(45,Iz (v1.length : Int)),(46,Iz v14)] [(0,.cells [Iz 0,AV.slc 1 0 3 (([] : List AaI).length) false]),(1,.grow (AaM (List.map AaI.av ([] : List AaI)))),(2,.cells [Iz v8,AV.slc 3 0 3 v15.length false]),(3,.grow (AaM (List.map AaI.av v15))),(4,.cells [Iz v20,Iz 1,Iz 1])] 5 (by simp [F15]) (by simp [F15]) ?_;exact JN (1) hF (by simp [F15]) (by simp [F15])
         ·replace hF:=Aaa h18 hF;have h18_:=AbY h18;have h18__:=Abc h18;have F16:=A4 F12 h18 h18_ h18__;refine CF (by simp [F16] <;> omega) ?_;refine AW.skip ?_;refine hK756 _ _ _ ?_;refine RN h0 [(0,0),(1,1),(2,2),(3,3),(4,5)] [(1,Iz v3),(2,Iz v4),(3,Iz v5),(8,AV.ptr 0 0),(9,AV.ptr 2 0),(13,AV.ptr 4 0),(44,Q0 v1),(45,Iz (v1.length : Int)),(46,Iz v14)] [(0,.cells [Iz 0,AV.slc 1 0 3 (([] : List AaI).length) false]),(1,.grow (AaM (List.map AaI.av ([] : List AaI)))),(2,.cells [Iz v8,AV.slc 3 0 3 v15.length false]),(3,.grow (AaM (List.map AaI.av v15))),(4,.cells [Iz v20,Iz v19,Iz 1])] 5 (by simp [F16]) (by simp [F16]) ?_;exact JN (v19) hF (by simp [F16]) (by simp [F16])
        ·rintro v21 hF
         try dsimp only at hF
         unfold AaY.J6 at hF;refine RG [] [none,none,none,none,none,none,none] fun _ _ g r=>?_;obtain ⟨h17,hF⟩:=AaR hF;have h17_:=h17;try simp at h17_
         have F17:=A2 F12 h17;try simp [F17]
         and_intros <;> first | exact GK g | apply r | omega | (simp [maxLen,F17] <;> omega)
         refine hK745 _ _ _ ?_;refine RN h0 [(0,0),(1,1),(2,2),(3,5)] [(1,Iz v3),(2,Iz v4),(3,Iz v5),(8,AV.ptr 0 0),(9,AV.ptr 2 0),(44,Q0 v1),(45,Iz (v1.length : Int)),(46,Iz v14)] [(0,.cells [Iz 0,AV.slc 1 0 3 (([] : List AaI).length) false]),(1,.grow (AaM (List.map AaI.av ([] : List AaI)))),(2,.cells [Iz v8,AV.slc 3 0 3 ((v15++([(AaI.mk v20 v21 1)] : List AaI)).length) false]),(3,.grow (AaM (List.map AaI.av (v15++([(AaI.mk v20 v21 1)] : List AaI)))))] 4 (by simp [F17]) (by simp [F17] <;> omega) ?_;exact JN (v15++([(AaI.mk v20 v21 1)] : List AaI)) hF (by simp [F17]) (by simp [F17])
   ·rintro v16 hF
    try dsimp only at hF
    unfold AaY.J4 at hF;refine RG [] [none,none] fun _ _ g r=>?_;try simp [F6]
    and_intros <;> first | exact GK g | apply r | omega | (simp [maxLen,F6] <;> omega)
    refine hK725 _ _ _ ?_;exact NX (k':=n3) ((IntKind.wrap .i64 (v14+1),v16)) hF (by simp [F6]) (by simp [F6])
  ·replace hF:=Aaa h8 hF;have h8_:=h8;try simp at h8_
   have F18:=A4 h2 h2_ h8 h8_;refine CF (by simp [F18] <;> omega) ?_;refine AW.exit ?_;try simp
   refine hK615 _ _ _ ?_;refine SQ [] [none,none] fun _ _ g r=>?_;try simp [F18]
   and_intros <;> first | exact GK g | apply r | omega | (simp [maxLen,F18] <;> omega)
   refine RM h0 [(0,3),(1,0)] [(8,AV.ptr 1 0)] [(0,.grow (AaM (List.map AaI.av v15))),(1,.cells [Iz v8,AV.slc 0 0 3 v15.length false])] 2 (by simp [F18]) (by simp [F18]) ?_;simp only [Option.some.injEq,Prod.mk.injEq] at hF;obtain ⟨e0,e1⟩:=hF;subst e0 e1;refine AW.ret (hQ _ _ _ ?_ (AaJ ?_)).1
   ·simp [Try.f61,F18]
   ·simp [F18]
theorem AhY (k : Nat) (v0 : Int) (v1 : Int) (v2 : Int) (v3 : Int) (v4 : (List AaI)) (v5 : Bool) (hF : Aez k v0 v1 v2 v3 v4=some v5) :
 AbF Try.prog 78 [AV.agg [AV.int .i64 v0,AV.int .i64 v1,AV.int .i64 v2],AV.ptr 0 0] [.cells [AV.int .i64 v3,Q1 v4]] (AV.bool v5) [some (.cells [AV.int .i64 v3,Q1 v4])]:=by
 unfold Aez at hF;refine EN Try.func78 ?_;intro c0 w0 Q h0 hQ
 refine WK [(0,AV.agg [Iz v0,Iz v1,Iz v2]),(1,AV.ptr 0 0)] [(0,.cells [Iz v3,Q1 v4])] 1 (by simp) (by simp) ?_;refine SW trivial [] [none,none] [0] [(2,AV.ptr 1 0)] [] [(1,.cells [Iz v0,Iz v1,Iz v2])] 2 ?_;refine SR [] [none,none,none,none,none,none,none,none,some (11,false),some (11,false),some (11,false),some (11,false),some (11,false),some (11,false),some (11,false),none,none,some (20,false),some (20,false),some (20,false),some (20,false),some (20,false),none,none,some (27,false),some (27,false),some (27,false),none,none,some (32,false),some (32,false),some (32,false),none,none,some (37,false),some (37,false),some (37,false),some (37,false),none,none] fun _ _ g r=>?_;try simp
 and_intros
 try any_goals first | omega | (simp [maxLen] <;> omega)
 obtain ⟨v6,h1,hF⟩:=AaN hF;refine AC (Acr k _ _ _ _ h1) (.cons (.same (by simp)) (.cons (.same (by simp)) (.cons (.same (by simp)) .nil))) ?_;by_cases h2 : (!v6)=true
 ·replace hF:=AaZ h2 hF;have h2_:=h2;try simp at h2_
  refine TL (A2 h2 h2_) g r [1,2] [(3,AV.bool true)] [1] [] 2 ?_;simp only [Option.some.injEq] at hF;subst hF;refine AW.ret (hQ _ _ _ ?_ (AaJ ?_)).1
  ·simp [Try.f78,h2,h2_]
  ·simp [h2,h2_]
 ·replace hF:=Aaa h2 hF;have h2_:=h2;try simp at h2_
  try simp [h2,h2_]
  and_intros
  try any_goals first | omega | (simp [h2,h2_,maxLen] <;> omega)
  obtain ⟨v7,h3,hF⟩:=AaN hF;refine AC (Acr k _ _ _ _ h3) (.cons (.same (by simp [h2,h2_])) (.cons (.same (by simp [h2,h2_])) (.cons (.same (by simp [h2,h2_])) .nil))) ?_;by_cases h4 : (!v7)=true
  ·replace hF:=AaZ h4 hF;have h4_:=h4;try simp at h4_
   have F1:=A4 h2 h2_ h4 h4_;refine TL F1 g r [1,2] [(3,AV.bool true)] [1] [] 2 ?_;simp only [Option.some.injEq] at hF;subst hF;refine AW.ret (hQ _ _ _ ?_ (AaJ ?_)).1
   ·simp [Try.f78,F1]
   ·simp [F1]
  ·replace hF:=Aaa h4 hF;have h4_:=h4;try simp at h4_
   by_cases h5 : v0=v1
   ·replace hF:=AaZ h5 hF;have h5q : v0=v1:=h5;have h5_:=Abf h5q;have h5__:=Abe h5q;have F2:=A6 h2 h2_ h4 h4_ h5_ h5__;refine TL F2 g r [1,2] [(3,AV.bool true)] [1] [] 2 ?_;simp only [Option.some.injEq] at hF;subst hF;refine AW.ret (hQ _ _ _ ?_ (AaJ ?_)).1
    ·simp [Try.f78,F2]
    ·simp [F2]
   ·replace hF:=Aaa h5 hF;have h5_:=AbY h5;have h5__:=Abc h5;by_cases h6 : v1=0
    ·replace hF:=AaZ h6 hF;have h6q : v1=0:=h6;have h6_:=Abf h6q;have h6__:=Abe h6q;have h6__h5:=h5_;simp only [h6q] at h6__h5;have h6___h5:=h5__;simp only [h6q] at h6___h5;have F3:=A9 h2 h2_ h4 h4_ h5 h5_ h5__ h6_ (A4 h6__ h6q h6__h5 h6___h5);refine TL F3 g r [1,2] [(3,AV.bool true)] [1] [] 2 ?_;simp only [Option.some.injEq] at hF;subst hF;refine AW.ret (hQ _ _ _ ?_ (AaJ ?_)).1
     ·simp [Try.f78,F3]
     ·simp [F3]
    ·replace hF:=Aaa h6 hF;have h6_:=AbY h6;have h6__:=Abc h6;by_cases h7 : v0=1
     ·replace hF:=AaZ h7 hF;have h7q : v0=1:=h7;have h7_:=Abf h7q;have h7__:=Abe h7q;have h7__h5:=h5_;simp only [h7q] at h7__h5;have h7___h5:=h5__;simp only [h7q] at h7___h5;have F4:=A9 h2 h2_ h4 h4_ h5 h5_ h5__ h6 (A7 h6_ h6__ h7_ h7__ h7q h7__h5 h7___h5);refine TL F4 g r [1,2] [(3,AV.bool true)] [1] [] 2 ?_;simp only [Option.some.injEq] at hF;subst hF;refine AW.ret (hQ _ _ _ ?_ (AaJ ?_)).1
      ·simp [Try.f78,F4]
      ·simp [F4]
     ·replace hF:=Aaa h7 hF;have h7_:=AbY h7;have h7__:=Abc h7;have F5:=A9 h2 h2_ h4 h4_ h5 h5_ h5__ h6 (A5 h6_ h6__ h7 h7_ h7__);try simp [F5]
      and_intros
      try any_goals first | omega | (simp [maxLen,F5] <;> omega)
      obtain ⟨v8,h8,hF⟩:=AaN hF;refine AC (Acr k _ _ _ _ h8) (.cons (.same (by simp [F5])) (.cons (.same (by simp [F5])) (.cons (.same (by simp [F5])) .nil))) ?_;refine TL F5 g r [1,2] [(3,AV.bool (!v8))] [1] [] 2 ?_;simp only [Option.some.injEq] at hF;subst hF;refine AW.ret (hQ _ _ _ ?_ (AaJ ?_)).1
      ·simp [Try.f78,F5]
      ·simp [F5]
theorem AcL (k : Nat) (v0 : (List AaI)) (v1 : Int) (v2 : (List AaI)) (v3 : Int) (hF : Aak k v0 v1 v2=some v3) :
 AbF Try.prog 66 [Q1 v0,AV.fn 78 [AV.ptr 0 0]] [.cells [AV.int .i64 v1,Q1 v2]] (AV.int .i64 v3) [some (.cells [AV.int .i64 v1,Q1 v2])]:=by
 unfold Aak at hF;refine EN Try.func66 ?_;intro c0 w0 Q h0 hQ
 refine WK [(0,Q1 v0),(1,AV.fn 78 [AV.ptr 0 0])] [(0,.cells [Iz v1,Q1 v2])] 1 (by simp) (by simp) ?_;refine SW trivial [] [none] [] [] [] [] 1 ?_;refine AW.seq fun K131 hK131=>?_;refine SW trivial [] [none,none,none] [] [(7,Iz (v0.length : Int)),(8,Iz 0)] [] [] 1 ?_;refine AW.block ?_;refine AW.loopF (α:=Int) (fun n v4=>Aak.L1 k v0 v1 v2 n v4=some v3) (fun v4=>[(0,Q1 v0),(1,AV.fn 78 [AV.ptr 0 0]),(7,Iz (v0.length : Int)),(8,Iz v4)]) (fun v4=>[(0,.cells [Iz v1,Q1 v2])]) 1 k (0) hF (by simp) (by simp) (by simp) ?_;rintro (_|n1) v4 hF K163 hK163
 ·try dsimp only at hF
  rw [Aak.L1] at hF; cases hF
 try dsimp only at hF
 rw [Aak.L1] at hF;refine SW trivial [] [none] [] [(9,AV.bool (decide (v4<(v0.length : Int))))] [] [] 1 ?_;refine AW.seq fun K165 hK165=>?_;by_cases h1 : v4<(v0.length : Int)
 ·replace hF:=AaZ h1 hF;have h1_:=h1;try simp at h1_
  refine CT (by simp [h1,h1_] <;> omega) ?_;refine AW.skip ?_;refine hK165 _ _ _ ?_;refine AW.seq fun K169 hK169=>?_;refine AW.block ?_;refine SW (A2 h1 h1_) [] [none,none] [] [(5,Iz v4)] [] [] 1 ?_;refine SR [] [none,none,none,none,none,none] fun _ _ g r=>?_;obtain ⟨v5,h2,h3,h4,hF⟩:=Aad hF;have h4_:=Aas h4;try simp at h4_
  have h3_:=h3;try simp at h3_
  have F1:=A7 h1 h1_ h2 h3 h4 h4_ h3_;try simp [F1]
  and_intros
  try any_goals first | omega | (simp [maxLen,F1] <;> omega)
  obtain ⟨v6,h5,hF⟩:=AaN hF;refine AbA (AhY k _ _ _ _ _ _ h5) (by simp) [0] [] [] rfl (.cons (.same (by simp [F1])) (.cons (.same (by simp [F1])) .nil)) (by simp [F1]) (by decide) (by simp) (by simp) (.inl rfl) (by simp) (by simp) ?_;refine TL F1 g r [] [(16,AV.bool v6)] [] [] 1 ?_;by_cases h6 : v6=true
  ·replace hF:=AaZ h6 hF;have h6_:=h6;try simp at h6_
   have F2:=A3 F1 h6 h6_;refine CT (by simp [F2] <;> omega) ?_;refine SW F2 [] [none,none] [0,1,5,7,8,16] [(4,Iz v4)] [] [] 1 ?_;simp only [Option.some.injEq] at hF;subst hF;refine AW.ret (hQ _ _ _ ?_ (AaJ ?_)).1
   ·simp [Try.f66,F2]
   ·simp [F2]
  ·replace hF:=Aaa h6 hF;have h6_:=h6;try simp at h6_
   have F3:=A3 F1 h6 h6_;refine CF (by simp [F3] <;> omega) ?_;refine AW.skip ?_;refine hK169 _ _ _ ?_;refine RG [] [none,none] fun _ _ g r=>?_;try simp [F3]
   and_intros <;> first | exact GK g | apply r | omega | (simp [maxLen,F3] <;> omega)
   refine hK163 _ _ _ ?_;exact NX (k':=n1) (IntKind.wrap .i64 (v4+1)) hF (by simp [F3]) (by simp [F3])
 ·replace hF:=Aaa h1 hF;have h1_:=h1;try simp at h1_
  refine CF (by simp [h1,h1_] <;> omega) ?_;refine AW.exit ?_;try simp
  refine hK131 _ _ _ ?_;refine SW (A2 h1 h1_) [] [none] [0,1,7,8] [(4,Iz (-1))] [] [] 1 ?_;simp only [Option.some.injEq] at hF;subst hF;refine AW.ret (hQ _ _ _ ?_ (AaJ ?_)).1
  ·simp [Try.f66,h1,h1_]
  ·simp [h1,h1_]
theorem AcC (k : Nat) (v0 : (List AaI)) (v1 : Int) (v2 : (List AaI)) (v3 : Bool) (hF : AbM k v0 v1 v2=some v3) :
 AbF Try.prog 79 [Q1 v0,AV.fn 78 [AV.ptr 0 0]] [.cells [AV.int .i64 v1,Q1 v2]] (AV.bool v3) [some (.cells [AV.int .i64 v1,Q1 v2])]:=by
 unfold AbM at hF;refine EN Try.func79 ?_;intro c0 w0 Q h0 hQ
 refine WK [(0,Q1 v0),(1,AV.fn 78 [AV.ptr 0 0])] [(0,.cells [Iz v1,Q1 v2])] 1 (by simp) (by simp) ?_;refine SW trivial [] [none] [] [] [] [] 1 ?_;refine SR [] [none,none,none,none,none] fun _ _ g r=>?_;try simp
 and_intros
 try any_goals first | omega | (simp [maxLen] <;> omega)
 obtain ⟨v4,h1,hF⟩:=AaN hF;refine AbA (AcL k _ _ _ _ h1) (by simp) [0] [] [] rfl (.cons (.same (by simp)) (.cons (.same (by simp)) .nil)) (by simp) (by decide) (by simp) (by simp) (.inl rfl) (by simp) (by simp) ?_;refine TL trivial g r [0,1] [(4,AV.bool (decide (0≤v4)))] [] [] 1 ?_;simp only [Option.some.injEq] at hF;subst hF;refine AW.ret (hQ _ _ _ ?_ (AaJ ?_)).1
 ·simp [Try.f79]
 ·simp
theorem Aej (k : Nat) (v0 : Int) (v1 : (List AaI)) (v2 : Int) (hF : AeG k v0 v1=some v2) :
 AbF Try.prog 46 [AV.agg [AV.int .i64 v0,Q1 v1]] [] (AV.int .i64 v2) []:=by
 unfold AeG at hF;refine EN Try.func46 ?_;intro c0 w0 Q h0 hQ
 refine WK [(0,AV.agg [Iz v0,Q1 v1])] [] 0 (by simp) (by simp) ?_;refine SW trivial [] [none,none] [0] [(1,AV.ptr 0 0)] [] [(0,.cells [Iz v0,Q1 v1])] 1 ?_;refine SW trivial [] [none,none] [] [(3,AV.fn 78 [AV.ptr 0 0])] [] [] 1 ?_;refine AW.seq fun K19 hK19=>?_;refine SR [] [none,none,none,none,none,some (9,false),some (9,false),some (9,false),some (9,false),none,none,some (15,false),some (15,false),some (15,false),some (15,false),none] fun _ _ g r=>?_;try simp
 and_intros
 try any_goals first | omega | (simp [maxLen] <;> omega)
 obtain ⟨v3,h1,hF⟩:=AaN hF;refine AC (Acr k _ _ _ _ h1) (.cons (.same (by simp)) (.cons (.same (by simp)) (.cons (.same (by simp)) .nil))) ?_;by_cases h2 : (!v3)=true
 ·replace hF:=AaZ h2 hF;have h2_:=h2;try simp at h2_
  refine TL (A2 h2 h2_) g r [1,3] [(20,AV.bool true)] [0] [] 1 ?_;refine CT (by simp [h2,h2_]) ?_;refine SW (A2 h2 h2_) [] [none] [20] [(2,Iz 16)] [] [] 1 ?_;simp only [Option.some.injEq] at hF;subst hF;refine AW.ret (hQ _ _ _ ?_ (AaJ ?_)).1
  ·simp [Try.f46,h2,h2_]
  ·simp [h2,h2_]
 ·replace hF:=Aaa h2 hF;have h2_:=h2;try simp at h2_
  by_cases h3 : 1200<(v1.length : Int)
  ·replace hF:=AaZ h3 hF;have h3_:=h3;try simp at h3_
   have F1:=A4 h2 h2_ h3 h3_;refine TL F1 g r [1,3] [(20,AV.bool true)] [0] [] 1 ?_;refine CT (by simp [F1]) ?_;refine SW F1 [] [none] [20] [(2,Iz 16)] [] [] 1 ?_;simp only [Option.some.injEq] at hF;subst hF;refine AW.ret (hQ _ _ _ ?_ (AaJ ?_)).1
   ·simp [Try.f46,F1]
   ·simp [F1]
  ·replace hF:=Aaa h3 hF;have h3_:=h3;try simp at h3_
   have F2:=A4 h2 h2_ h3 h3_;try simp [F2]
   and_intros
   try any_goals first | omega | (simp [maxLen,F2] <;> omega)
   obtain ⟨v4,h4,hF⟩:=AaN hF;refine AbA (AcC k _ _ _ _ h4) (by simp) [0] [] [] rfl (.cons (.same (by simp [F2])) (.cons (.same (by simp [F2])) .nil)) (by simp [F2]) (by decide) (by simp) (by simp) (.inl rfl) (by simp) (by simp) ?_;refine TL F2 g r [1,3] [(20,AV.bool v4)] [0] [] 1 ?_;by_cases h5 : v4=true
   ·replace hF:=AaZ h5 hF;have h5_:=h5;try simp at h5_
    have F3:=A3 F2 h5 h5_;refine CT (by simp [F3] <;> omega) ?_;refine SW F3 [] [none] [20] [(2,Iz 16)] [] [] 1 ?_;simp only [Option.some.injEq] at hF;subst hF;refine AW.ret (hQ _ _ _ ?_ (AaJ ?_)).1
    ·simp [Try.f46,F3]
    ·simp [F3]
   ·replace hF:=Aaa h5 hF;have h5_:=h5;try simp at h5_
    have F4:=A3 F2 h5 h5_;refine CF (by simp [F4] <;> omega) ?_;refine AW.skip ?_;refine hK19 _ _ _ ?_;refine SW F4 [] [none] [20] [(2,Iz 0)] [] [] 1 ?_;simp only [Option.some.injEq] at hF;subst hF;refine AW.ret (hQ _ _ _ ?_ (AaJ ?_)).1
    ·simp [Try.f46,F4]
    ·simp [F4]
theorem AcR (k : Nat) (v0 : (List Int)) (v1 : (List Int)) (hF : Abl k v0=some v1) :
 AbF Try.prog 65 [AV.lst false false (List.map (AV.int .i64) v0)] [] (AV.slc 0 0 1 v1.length false) [some (Gi v1)]:=by
 unfold Abl at hF;obtain ⟨h1,hF⟩:=AaR hF;simp only [Option.some.injEq] at hF;subst hF;refine EN Try.func65 ?_;intro c0 w0 Q h0 hQ
 refine WK [(0,Lz v0)] [] 0 (by simp) (by simp) ?_;refine SQ [] [none] fun _ _ g r=>?_;simp
 refine ⟨g _ (by kernel_rfl),r _ _ _ ?_⟩;refine WK [(0,Lz v0)] [] 0 (by simp) (by simp) ?_;refine AW.nilSplit (fl:=false) (xs:=List.map (AV.int .i64) v0) 0 (by decide) (by simp) (fun hx=>?_) ?_
 ·simp at hx
  subst hx;refine WK [(0,AV.lst true false [])] [] 0 (by simp) (by simp) ?_;refine AW.seq fun K2 hK2=>?_;refine SQ [] [none,none] fun _ _ g r=>?_;simp
  refine ⟨g _ (by kernel_rfl),r _ _ _ ?_⟩;refine WK [(4,AV.bool true)] [] 0 (by simp) (by simp) ?_;refine CT (by simp) ?_;refine SQ [] [none] fun _ _ g r=>?_;simp
  refine ⟨g _ (by kernel_rfl),r _ _ _ ?_⟩;refine WK [(2,AV.lst true true [])] [] 0 (by simp) (by simp) ?_;refine AW.own' 2 1 true (by simp) (by decide) ?_;refine AW.ret (hQ _ _ _ ?_ (AaJ ?_)).1
  ·simp [Try.f65]
  ·simp
 ·refine WK [(0,AV.nn (Lz v0))] [] 0 (by simp) (by simp) ?_;refine AW.seq fun K2 hK2=>?_;refine SQ [] [none,none] fun _ _ g r=>?_;simp
  refine ⟨g _ (by kernel_rfl),r _ _ _ ?_⟩;refine WK [(0,AV.nn (Lz v0)),(4,AV.bool false)] [] 0 (by simp) (by simp) ?_;refine AW.flg [(0,Lz v0)] [] ⟨.nn,trivial⟩ trivial (by decide) ?_;refine WK [(0,Lz v0),(4,AV.bool false)] [] 0 (by simp) (by simp) ?_;refine CF (by simp) ?_;refine AW.skip ?_;refine hK2 _ _ _ ?_;refine SQ [7] [none,none,none,none] fun _ _ g r=>?_;simp
  and_intros <;> first | exact GK g | apply r | omega | (unfold maxLen; omega)
  refine WK [(2,AV.slc 0 0 1 v0.length false)] [(0,Gi v0)] 1 (by simp) (by simp) ?_;refine AW.ret (hQ _ _ _ ?_ (AaJ ?_)).1
  ·simp [Try.f65]
  ·simp
abbrev Aaz (v0 : Int) (v1 : (List AaI)) (v2 : (List Int)) : Aau := .cells [Iz v0,Q1 v1,AV.slc 0 0 1 v2.length false,AV.slc 3 0 1 v0.toNat true]
theorem Ajq (k : Nat) (v0 : Int) (v1 : (List AaI)) (v2 : (List Int)) (v3 : (List (List AaD))) (hF : Ab6 k v0 v1 v2=some v3) :
 AbF Try.prog 80 [AV.agg [AV.int .i64 v0,Q1 v1],AV.slc 0 0 1 v2.length false] [Gi v2] (AV.agg [AV.int .i64 v0,Q1 v1,AV.slc 0 0 1 v2.length false,AV.lst false false (List.map (sl AaD.av) v3)]) [some (Gi v2)]:=by
 unfold Ab6 at hF;try unfold Ab6 at hF
 obtain ⟨⟨h1,h2⟩,hF⟩:=AaR hF;refine EN Try.func80 ?_;intro c0 w0 Q h0 hQ
 refine WK [(0,AV.agg [Iz v0,Q1 v1]),(1,AV.slc 0 0 1 v2.length false)] [(0,Gi v2)] 1 (by simp) (by simp) ?_;refine SQ [] [none,none] fun _ _ g r=>?_;try simp
 and_intros <;> first | exact GK g | apply r | omega
 refine WK [(1,AV.slc 0 0 1 v2.length false),(2,AV.ptr 1 0),(4,AV.ptr 2 0)] [(0,Gi v2),(1,.cells [Iz v0,Q1 v1]),(2,.cells [Iz 0,AV.lst true true [],AV.lst true true [],AV.lst true true []])] 3 (by simp) (by simp) ?_;refine SQ [12] [none,none,none,none,none,none,none,none] fun _ _ g r=>?_;try simp
 refine ⟨h1,by omega,by unfold maxLen; omega,g _ (by kernel_rfl),r _ _ _ ?_⟩;refine WK [(2,AV.ptr 1 0),(4,AV.ptr 2 0),(5,AV.ptr 4 0)] [(3,.cells (List.replicate v0.toNat (AV.lst true true []))),(0,Gi v2),(1,.cells [Iz v0,Q1 v1]),(2,.cells [Iz 0,AV.lst true true [],AV.lst true true [],AV.lst true true []]),(4,Aaz v0 v1 v2)] 5 (by simp) (by simp [Ahz]) ?_;refine AW.ownAll [(2,AV.ptr 1 0),(4,AV.ptr 2 0),(5,AV.ptr 4 0)] [(0,Gi v2),(1,.cells [Iz v0,Q1 v1]),(2,.cells [Iz 0,AV.lst true true [],AV.lst true true [],AV.lst true true []]),(4,Aaz v0 v1 v2)] 3 2 v0.toNat 5 (by simp) (by decide) ?_ (by simp);refine AW.seq fun K4 hK4=>?_;refine SQ [] [none,none,none,none] fun _ _ g r=>?_;try simp
 and_intros <;> first | exact GK g | apply r | omega
 have ec : (List.map (List.map AaD.av) (List.replicate v0.toNat ([] : List AaD)))=List.replicate v0.toNat ([] : List AV):=by simp
 rw [← ec];refine AW.wkF [(4,AV.ptr 2 0),(5,AV.ptr 4 0),(15,Q1 v1),(16,Iz (v1.length : Int)),(17,Iz 0)] [(3,.cells (Acz 2 (AgJ 5 v0.toNat) (List.map (List.map AaD.av) (List.replicate v0.toNat ([] : List AaD))))),(0,Gi v2),(1,.cells [Iz v0,Q1 v1]),(2,.cells [Iz 0,AV.lst true true [],AV.lst true true [],AV.lst true true []]),(4,Aaz v0 v1 v2)] (AgJ 5 v0.toNat) (List.map (List.map AaD.av) (List.replicate v0.toNat ([] : List AaD))) (5+v0.toNat) (by simp) (by simp) ?_ (by simp) ?_
 ·exact (show Fam (mkH ([(3,.cells (Acz 2 (AgJ 5 v0.toNat) (List.map (List.map AaD.av) (List.replicate v0.toNat ([] : List AaD))))),(0,Gi v2),(1,.cells [Iz v0,Q1 v1]),(2,.cells [Iz 0,AV.lst true true [],AV.lst true true [],AV.lst true true []]),(4,Aaz v0 v1 v2)]++AfM (AgJ 5 v0.toNat) (List.map (List.map AaD.av) (List.replicate v0.toNat ([] : List AaD))))) (AgJ 5 v0.toNat) (List.map (List.map AaD.av) (List.replicate v0.toNat ([] : List AaD))) from AeQ (by simp [AeO]) (AfB _ _) (by simp [AeN]))
 refine AW.lenFact 15 (by decide) (nl:=false) (fl:=false) (xs:=List.map AaI.av v1) (by simp) fun hlen=>?_;simp only [List.length_map] at hlen;refine AW.block ?_;refine AW.loopV (α:=Int×List Nat×List (List AaD)) (fun n (i,ids,at_)=>Ab6.L1 k v1 n i at_=some v3∧0≤i∧ids.length=at_.length∧ids.Nodup∧(∀ z ∈ ids,5≤z∧z<5+v0.toNat+3*i.toNat)∧at_.length=v0.toNat) (fun (i,ids,at_)=>[(4,AV.ptr 2 0),(5,AV.ptr 4 0),(15,Q1 v1),(16,Iz (v1.length : Int)),(17,Iz i)])
  (fun (i,ids,at_)=>[(3,.cells (Acz 2 ids (List.map (List.map AaD.av) at_))),(0,Gi v2),(1,.cells [Iz v0,Q1 v1]),(2,.cells [Iz 0,AV.lst true true [],AV.lst true true [],AV.lst true true []]),(4,Aaz v0 v1 v2)]++AfM ids (List.map (List.map AaD.av) at_)) (fun (i,ids,at_)=>5+v0.toNat+3*i.toNat) k (0,AgJ 5 v0.toNat,List.replicate v0.toNat []) ⟨hF,by omega,by simp [AeO],AfB _ _,fun z hz=>by have:=AeN.1 hz; simp; omega,by simp⟩ (by simp) ?_ (by simp) ?_
 ·exact Am4 (by simp [AeO]) (AfB _ _) (by simp [AeN]) (by simp)
 rintro (_|n1) ⟨i,ids,at_⟩ ⟨hF,g1,g2,g3,g4,g5⟩ K5 hK5
 ·rw [Ab6.L1] at hF; cases hF
 rw [Ab6.L1] at hF;dsimp only
 obtain ⟨m0,hm0⟩ : ∃ m,m=5+v0.toNat+3*i.toNat:=⟨_,rfl⟩;rw [← hm0] at g4 ⊢;refine SQ [] [none] fun _ _ g r=>?_;try simp
 and_intros <;> first | exact GK g | apply r | omega
 have hd0 : ∀ p ∈ ([(3,.cells (Acz 2 ids (List.map (List.map AaD.av) at_))),(0,Gi v2),(1,.cells [Iz v0,Q1 v1]),(2,.cells [Iz 0,AV.lst true true [],AV.lst true true [],AV.lst true true []]),(4,Aaz v0 v1 v2)] : List (Nat×Aau)),p.1 ∉ ids:=by
  simp only [List.forall_mem_cons,List.not_mem_nil,false_implies,implies_true,and_true];and_intros <;> (intro z; have:=g4 _ z; omega)
 have F0 : Fam (mkH ([(3,.cells (Acz 2 ids (List.map (List.map AaD.av) at_))),(0,Gi v2),(1,.cells [Iz v0,Q1 v1]),(2,.cells [Iz 0,AV.lst true true [],AV.lst true true [],AV.lst true true []]),(4,Aaz v0 v1 v2)]++AfM ids (List.map (List.map AaD.av) at_))) ids (List.map (List.map AaD.av) at_):=AeQ (by simp [g2]) g3 hd0;by_cases q : i<(v1.length : Int)
 ·replace hF:=AaZ q hF;refine AW.wkF [(4,AV.ptr 2 0),(5,AV.ptr 4 0),(15,Q1 v1),(16,Iz (v1.length : Int)),(17,Iz i),(18,AV.bool true)] [(3,.cells (Acz 2 ids (List.map (List.map AaD.av) at_))),(0,Gi v2),(1,.cells [Iz v0,Q1 v1]),(2,.cells [Iz 0,AV.lst true true [],AV.lst true true [],AV.lst true true []]),(4,Aaz v0 v1 v2)] ids (List.map (List.map AaD.av) at_) m0 (by simp [q]) (by simp) F0 (by simp) ?_;refine AW.seq fun K7 hK7=>?_;refine CT (by simp) ?_;refine AW.skip ?_;refine hK7 _ _ _ ?_;refine AW.seq fun K8 hK8=>?_;refine AW.block ?_;obtain ⟨v5,c1,c2,c3,hF⟩:=Aad hF;have c3_:=Aas c3;refine SQ [] [none,none,none,none,none,none] fun _ _ g r=>?_;try simp [c1,c2,c3,c3_]
  and_intros <;> first | exact GK g | apply r | omega
  have z0 : 0≠m0∧1≠m0∧2≠m0∧3≠m0∧4≠m0∧m0≠0∧m0≠1∧m0≠2∧m0≠3∧m0≠4:=by omega
  refine AW.wkF [(4,AV.ptr 2 0),(5,AV.ptr 4 0),(15,Q1 v1),(16,Iz (v1.length : Int)),(6,Iz i),(7,AV.ptr m0 0),(17,Iz i)] [(m0,.cells [Iz v5.From,Iz v5.To,Iz v5.Cap]),(3,.cells (Acz 2 ids (List.map (List.map AaD.av) at_))),(0,Gi v2),(1,.cells [Iz v0,Q1 v1]),(2,.cells [Iz 0,AV.lst true true [],AV.lst true true [],AV.lst true true []]),(4,Aaz v0 v1 v2)] ids (List.map (List.map AaD.av) at_) (m0+1) (by simp [z0]) (by simp [z0]) (F0.congr fun z hz=>by have:=g4 z hz; simp [upd,show z≠m0 by omega]) (by simp) ?_;have g4 : ∀ z ∈ ids,5≤z∧z≠m0∧z<m0+1:=fun z hz=>by have:=g4 z hz; omega
  have zi : i+1≤9223372036854775807∧v1.length≤9223372036854775807:=by unfold maxLen at hlen; omega
  unfold Ab6.S at hF;obtain ⟨⟨a1p,a2p⟩,hF⟩:=AaR hF;obtain ⟨lp,b1p,b2p,b3p,hF⟩:=Aad hF;obtain ⟨b4p,hF⟩:=AaR hF;have l1p : at_[v5.From.toNat]'a2p=lp:=by have:=Aas b3p; simpa using this
  obtain ⟨dp,hdp⟩ : ∃ d,ids[v5.From.toNat]'(by rw [g2]; exact a2p)=d:=⟨_,rfl⟩;have drp:=g4 dp (hdp ▸ List.getElem_mem _);have fcp:=Akq (es:=2) (ids:=ids) (css:=(List.map (List.map AaD.av) at_)) (x:=v5.From.toNat) (by rw [g2]; exact a2p) (by simpa using a2p);simp only [hdp,List.getElem_map,l1p,List.length_map] at fcp;have fnp : ¬ Acz 2 ids (List.map (List.map AaD.av) at_) = []:=by intro z; rw [z] at fcp; simp at fcp
  have hd1p : ∀ p ∈ ([(m0,.cells [Iz v5.From,Iz v5.To,Iz v5.Cap]),(3,.cells (Acz 2 ids (List.map (List.map AaD.av) at_))),(0,Gi v2),(1,.cells [Iz v0,Q1 v1]),(2,.cells [Iz 0,AV.lst true true [],AV.lst true true [],AV.lst true true []]),(4,Aaz v0 v1 v2)] : List (Nat×Aau)),p.1 ∉ ids:=by
   simp only [List.forall_mem_cons,List.not_mem_nil,false_implies,implies_true,and_true];and_intros <;> (intro z; have:=g4 _ z; omega)
  have hclp : (ids).length=((List.map (List.map AaD.av) at_)).length:=by rw [List.length_map]; exact g2
  have F1p : Fam (mkH ([(m0,.cells [Iz v5.From,Iz v5.To,Iz v5.Cap]),(3,.cells (Acz 2 ids (List.map (List.map AaD.av) at_))),(0,Gi v2),(1,.cells [Iz v0,Q1 v1]),(2,.cells [Iz 0,AV.lst true true [],AV.lst true true [],AV.lst true true []]),(4,Aaz v0 v1 v2)]++AfM ids (List.map (List.map AaD.av) at_))) ids (List.map (List.map AaD.av) at_):=AeQ hclp g3 hd1p;have F2p : Fam (mkH (((dp,.grow (AaM (List.map AaD.av lp))) :: [(m0,.cells [Iz v5.From,Iz v5.To,Iz v5.Cap]),(3,.cells (Acz 2 ids (List.map (List.map AaD.av) at_))),(0,Gi v2),(1,.cells [Iz v0,Q1 v1]),(2,.cells [Iz 0,AV.lst true true [],AV.lst true true [],AV.lst true true []]),(4,Aaz v0 v1 v2)])++AfM ids (List.map (List.map AaD.av) at_))) ids (List.map (List.map AaD.av) at_):=Al1 hclp g3 hd1p (by rw [g2]; exact a2p) (by simpa using a2p) hdp (by rw [List.getElem_map,l1p]);have hgdp:=F1p.get v5.From.toNat (by rw [g2]; exact a2p) (by simpa using a2p);simp only [hdp,List.getElem_map,l1p] at hgdp;have zdp : 0≠dp∧1≠dp∧2≠dp∧3≠dp∧4≠dp∧m0≠dp∧dp≠0∧dp≠1∧dp≠2∧dp≠3∧dp≠4∧dp≠m0∧m0+1≠dp∧dp≠m0+1:=by omega
  have zmp : 0≠m0+1∧1≠m0+1∧2≠m0+1∧3≠m0+1∧4≠m0+1∧m0≠m0+1∧m0+1≠0∧m0+1≠1∧m0+1≠2∧m0+1≠3∧m0+1≠4∧m0+1≠m0:=by omega
  refine AW.wkF [(4,AV.ptr 2 0),(5,AV.ptr 4 0),(15,Q1 v1),(16,Iz (v1.length : Int)),(6,Iz i),(7,AV.ptr m0 0),(17,Iz i)] ((dp,.grow (AaM (List.map AaD.av lp))) :: [(m0,.cells [Iz v5.From,Iz v5.To,Iz v5.Cap]),(3,.cells (Acz 2 ids (List.map (List.map AaD.av) at_))),(0,Gi v2),(1,.cells [Iz v0,Q1 v1]),(2,.cells [Iz 0,AV.lst true true [],AV.lst true true [],AV.lst true true []]),(4,Aaz v0 v1 v2)]) ids (List.map (List.map AaD.av) at_) (m0+1) (by simp [z0]) (List.forall_mem_cons.2 ⟨hgdp,by simp [z0]⟩) F1p (by omega) ?_;refine SQ [] [none,none,none,none,none,none,none,none,none,none,none,none,none,none,none,none] fun _ _ g r=>?_;have hcxp : (List.map (List.map AaD.av) (at_.set v5.From.toNat (lp++[(AaD.mk i false)])))=((List.map (List.map AaD.av) at_)).set v5.From.toNat (List.map AaD.av lp++[AV.agg [Iz i,AV.bool false]]):=by rw [List.map_set]; simp
  have efp : Acz 2 (ids.set v5.From.toNat (m0+1)) (List.map (List.map AaD.av) (at_.set v5.From.toNat (lp++[(AaD.mk i false)])))=(Acz 2 ids (List.map (List.map AaD.av) at_)).set v5.From.toNat (AV.slc (m0+1) 0 2 (lp.length+1) false):=by rw [hcxp,Agt]; simp
  have egp : Acz 2 (ids.set v5.From.toNat (m0+1)) (((List.map (List.map AaD.av) at_)).set v5.From.toNat (List.map AaD.av lp++[AV.agg [Iz i,AV.bool false]]))=(Acz 2 ids (List.map (List.map AaD.av) at_)).set v5.From.toNat (AV.slc (m0+1) 0 2 (lp.length+1) false):=by rw [Agt]; simp
  have hflp : AaM (List.map AaD.av lp++[AV.agg [Iz i,AV.bool false]])=AaM (List.map AaD.av lp)++[Iz i,AV.bool false]:=by simp [AaM,AV.cells]
  try simp [z0,zdp,fcp,a1p,a2p,b4p,Aik,g2,g5]
  and_intros <;> first | exact g _ (by rw [Bool.not_true,Bool.false_or]; exact Afj [([4],[]),([4],[]),([101],[]),([101],[]),([4],[]),([4],[]),([101],[]),([101],[]),([3],[]),([3],[]),([],[]),([],[]),([],[]),([100],[100,102]),([3],[]),([3],[3])] (fun z=>if z=100 then dp else if z=101 then m0 else if z=102 then m0+1 else z) [3,4,100,101,102] (by simp only [List.forall_mem_cons,List.not_mem_nil,false_implies,implies_true,and_true]; and_intros <;> first | trivial | (intro h; first | rfl | (exfalso; simp at h; done) | (exfalso; simp at h; omega))) (by decide) (by kernel_rfl)) | apply r | exact fnp | omega | (unfold maxLen; simp only [List.length_cons,List.length_nil] at b4p; omega) | (simp only [List.length_cons,List.length_nil] at b4p; omega)
  refine AW.wkF [(4,AV.ptr 2 0),(5,AV.ptr 4 0),(15,Q1 v1),(16,Iz (v1.length : Int)),(6,Iz i),(7,AV.ptr m0 0),(17,Iz i)] [(m0,.cells [Iz v5.From,Iz v5.To,Iz v5.Cap]),(3,.cells (Acz 2 (ids.set v5.From.toNat (m0+1)) (List.map (List.map AaD.av) (at_.set v5.From.toNat (lp++[(AaD.mk i false)]))))),(0,Gi v2),(1,.cells [Iz v0,Q1 v1]),(2,.cells [Iz 0,AV.lst true true [],AV.lst true true [],AV.lst true true []]),(4,Aaz v0 v1 v2)] (ids.set v5.From.toNat (m0+1)) (List.map (List.map AaD.av) (at_.set v5.From.toNat (lp++[(AaD.mk i false)]))) (m0+1+1) (by simp [z0,zmp]) (by simp [z0,zdp,zmp,egp]) ?_ (by omega) ?_
  ·rw [hcxp];exact F2p.put (fun z=>by have:=g4 _ z; omega) (by simp [zmp,zdp,hflp]) (fun z hz hne=>by
    have z1:=g4 z hz;have z2:=hne (by rw [g2]; exact a2p);rw [hdp] at z2;rw [AbR _ _ (by omega),AbR _ _ (by omega),AbR _ _ z2]; rfl)
  have g2p : (ids.set v5.From.toNat (m0+1)).length=(at_.set v5.From.toNat (lp++[(AaD.mk i false)])).length:=by rw [List.length_set,List.length_set]; exact g2
  have g3p : (ids.set v5.From.toNat (m0+1)).Nodup:=(F2p.put (H':=fun j=>if j=m0+1 then some (.grow (AaM [])) else mkH (((dp,.grow (AaM (List.map AaD.av lp))) :: [(m0,.cells [Iz v5.From,Iz v5.To,Iz v5.Cap]),(3,.cells (Acz 2 ids (List.map (List.map AaD.av) at_))),(0,Gi v2),(1,.cells [Iz v0,Q1 v1]),(2,.cells [Iz 0,AV.lst true true [],AV.lst true true [],AV.lst true true []]),(4,Aaz v0 v1 v2)])++AfM ids (List.map (List.map AaD.av) at_)) j) (x:=v5.From.toNat) (c:=[]) (M:=m0+1) (fun z=>by have:=g4 _ z; omega) (by simp) (fun z hz _=>by have:=g4 z hz; exact if_neg (by omega))).nd;have g4p : ∀ z ∈ (ids.set v5.From.toNat (m0+1)),5≤z∧z≠m0∧z<m0+1+1:=fun z hz=>by
   rcases List.mem_or_eq_of_mem_set hz with h | rfl
   ·have:=g4 z h; omega
   ·omega
  have g5p : (at_.set v5.From.toNat (lp++[(AaD.mk i false)])).length=v0.toNat:=by rw [List.length_set]; exact g5
  generalize (at_.set v5.From.toNat (lp++[(AaD.mk i false)]))=at1 at hF g2p g5p ⊢;generalize (ids.set v5.From.toNat (m0+1))=ids1 at g2p g3p g4p ⊢;obtain ⟨⟨a1r,a2r⟩,hF⟩:=AaR hF;obtain ⟨lr,b1r,b2r,b3r,hF⟩:=Aad hF;obtain ⟨b4r,hF⟩:=AaR hF;have l1r : at1[v5.To.toNat]'a2r=lr:=by have:=Aas b3r; simpa using this
  obtain ⟨dr,hdr⟩ : ∃ d,ids1[v5.To.toNat]'(by rw [g2p]; exact a2r)=d:=⟨_,rfl⟩;have drr:=g4p dr (hdr ▸ List.getElem_mem _);have fcr:=Akq (es:=2) (ids:=ids1) (css:=(List.map (List.map AaD.av) at1)) (x:=v5.To.toNat) (by rw [g2p]; exact a2r) (by simpa using a2r);simp only [hdr,List.getElem_map,l1r,List.length_map] at fcr;have fnr : ¬ Acz 2 ids1 (List.map (List.map AaD.av) at1) = []:=by intro z; rw [z] at fcr; simp at fcr
  have hd1r : ∀ p ∈ ([(m0,.cells [Iz v5.From,Iz v5.To,Iz v5.Cap]),(3,.cells (Acz 2 ids1 (List.map (List.map AaD.av) at1))),(0,Gi v2),(1,.cells [Iz v0,Q1 v1]),(2,.cells [Iz 0,AV.lst true true [],AV.lst true true [],AV.lst true true []]),(4,Aaz v0 v1 v2)] : List (Nat×Aau)),p.1 ∉ ids1:=by
   simp only [List.forall_mem_cons,List.not_mem_nil,false_implies,implies_true,and_true];and_intros <;> (intro z; have:=g4p _ z; omega)
  have hclr : (ids1).length=((List.map (List.map AaD.av) at1)).length:=by rw [List.length_map]; exact g2p
  have F1r : Fam (mkH ([(m0,.cells [Iz v5.From,Iz v5.To,Iz v5.Cap]),(3,.cells (Acz 2 ids1 (List.map (List.map AaD.av) at1))),(0,Gi v2),(1,.cells [Iz v0,Q1 v1]),(2,.cells [Iz 0,AV.lst true true [],AV.lst true true [],AV.lst true true []]),(4,Aaz v0 v1 v2)]++AfM ids1 (List.map (List.map AaD.av) at1))) ids1 (List.map (List.map AaD.av) at1):=AeQ hclr g3p hd1r;have F2r : Fam (mkH (((dr,.grow (AaM (List.map AaD.av lr))) :: [(m0,.cells [Iz v5.From,Iz v5.To,Iz v5.Cap]),(3,.cells (Acz 2 ids1 (List.map (List.map AaD.av) at1))),(0,Gi v2),(1,.cells [Iz v0,Q1 v1]),(2,.cells [Iz 0,AV.lst true true [],AV.lst true true [],AV.lst true true []]),(4,Aaz v0 v1 v2)])++AfM ids1 (List.map (List.map AaD.av) at1))) ids1 (List.map (List.map AaD.av) at1):=Al1 hclr g3p hd1r (by rw [g2p]; exact a2r) (by simpa using a2r) hdr (by rw [List.getElem_map,l1r]);have hgdr:=F1r.get v5.To.toNat (by rw [g2p]; exact a2r) (by simpa using a2r);simp only [hdr,List.getElem_map,l1r] at hgdr;have zdr : 0≠dr∧1≠dr∧2≠dr∧3≠dr∧4≠dr∧m0≠dr∧dr≠0∧dr≠1∧dr≠2∧dr≠3∧dr≠4∧dr≠m0∧m0+1+1≠dr∧dr≠m0+1+1:=by omega
  have zmr : 0≠m0+1+1∧1≠m0+1+1∧2≠m0+1+1∧3≠m0+1+1∧4≠m0+1+1∧m0≠m0+1+1∧m0+1+1≠0∧m0+1+1≠1∧m0+1+1≠2∧m0+1+1≠3∧m0+1+1≠4∧m0+1+1≠m0:=by omega
  refine AW.wkF [(4,AV.ptr 2 0),(5,AV.ptr 4 0),(15,Q1 v1),(16,Iz (v1.length : Int)),(6,Iz i),(7,AV.ptr m0 0),(17,Iz i)] ((dr,.grow (AaM (List.map AaD.av lr))) :: [(m0,.cells [Iz v5.From,Iz v5.To,Iz v5.Cap]),(3,.cells (Acz 2 ids1 (List.map (List.map AaD.av) at1))),(0,Gi v2),(1,.cells [Iz v0,Q1 v1]),(2,.cells [Iz 0,AV.lst true true [],AV.lst true true [],AV.lst true true []]),(4,Aaz v0 v1 v2)]) ids1 (List.map (List.map AaD.av) at1) (m0+1+1) (by simp [z0]) (List.forall_mem_cons.2 ⟨hgdr,by simp [z0]⟩) F1r (by omega) ?_;refine RG [] [none,none,none,none,none,none,none,none,none,none,none,none,none,none,none,none] fun _ _ g r=>?_;have hcxr : (List.map (List.map AaD.av) (at1.set v5.To.toNat (lr++[(AaD.mk i true)])))=((List.map (List.map AaD.av) at1)).set v5.To.toNat (List.map AaD.av lr++[AV.agg [Iz i,AV.bool true]]):=by rw [List.map_set]; simp
  have efr : Acz 2 (ids1.set v5.To.toNat (m0+1+1)) (List.map (List.map AaD.av) (at1.set v5.To.toNat (lr++[(AaD.mk i true)])))=(Acz 2 ids1 (List.map (List.map AaD.av) at1)).set v5.To.toNat (AV.slc (m0+1+1) 0 2 (lr.length+1) false):=by rw [hcxr,Agt]; simp
  have egr : Acz 2 (ids1.set v5.To.toNat (m0+1+1)) (((List.map (List.map AaD.av) at1)).set v5.To.toNat (List.map AaD.av lr++[AV.agg [Iz i,AV.bool true]]))=(Acz 2 ids1 (List.map (List.map AaD.av) at1)).set v5.To.toNat (AV.slc (m0+1+1) 0 2 (lr.length+1) false):=by rw [Agt]; simp
  have hflr : AaM (List.map AaD.av lr++[AV.agg [Iz i,AV.bool true]])=AaM (List.map AaD.av lr)++[Iz i,AV.bool true]:=by simp [AaM,AV.cells]
  try simp [z0,zdr,fcr,a1r,a2r,b4r,Aik,g2p,g5p]
  and_intros <;> first | exact g _ (by rw [Bool.not_true,Bool.false_or]; exact Afj [([4],[]),([4],[]),([101],[]),([101],[]),([4],[]),([4],[]),([101],[]),([101],[]),([3],[]),([3],[]),([],[]),([],[]),([],[]),([100],[100,102]),([3],[]),([3],[3])] (fun z=>if z=100 then dr else if z=101 then m0 else if z=102 then m0+1+1 else z) [3,4,100,101,102] (by simp only [List.forall_mem_cons,List.not_mem_nil,false_implies,implies_true,and_true]; and_intros <;> first | trivial | (intro h; first | rfl | (exfalso; simp at h; done) | (exfalso; simp at h; omega))) (by decide) (by kernel_rfl)) | apply r | exact fnr | omega | (unfold maxLen; simp only [List.length_cons,List.length_nil] at b4r; omega) | (simp only [List.length_cons,List.length_nil] at b4r; omega)
  refine hK8 _ _ _ ?_;refine AW.wkF [(4,AV.ptr 2 0),(5,AV.ptr 4 0),(15,Q1 v1),(16,Iz (v1.length : Int)),(6,Iz i),(7,AV.ptr m0 0),(17,Iz i)] [(m0,.cells [Iz v5.From,Iz v5.To,Iz v5.Cap]),(3,.cells (Acz 2 (ids1.set v5.To.toNat (m0+1+1)) (List.map (List.map AaD.av) (at1.set v5.To.toNat (lr++[(AaD.mk i true)]))))),(0,Gi v2),(1,.cells [Iz v0,Q1 v1]),(2,.cells [Iz 0,AV.lst true true [],AV.lst true true [],AV.lst true true []]),(4,Aaz v0 v1 v2)] (ids1.set v5.To.toNat (m0+1+1)) (List.map (List.map AaD.av) (at1.set v5.To.toNat (lr++[(AaD.mk i true)]))) (m0+1+1+1) (by simp [z0,zmr]) (by simp [z0,zdr,zmr,egr]) ?_ (by omega) ?_
  ·rw [hcxr];exact F2r.put (fun z=>by have:=g4p _ z; omega) (by simp [zmr,zdr,hflr]) (fun z hz hne=>by
    have z1:=g4p z hz;have z2:=hne (by rw [g2p]; exact a2r);rw [hdr] at z2;rw [AbR _ _ (by omega),AbR _ _ (by omega),AbR _ _ z2]; rfl)
  have g2r : (ids1.set v5.To.toNat (m0+1+1)).length=(at1.set v5.To.toNat (lr++[(AaD.mk i true)])).length:=by rw [List.length_set,List.length_set]; exact g2p
  have g3r : (ids1.set v5.To.toNat (m0+1+1)).Nodup:=(F2r.put (H':=fun j=>if j=m0+1+1 then some (.grow (AaM [])) else mkH (((dr,.grow (AaM (List.map AaD.av lr))) :: [(m0,.cells [Iz v5.From,Iz v5.To,Iz v5.Cap]),(3,.cells (Acz 2 ids1 (List.map (List.map AaD.av) at1))),(0,Gi v2),(1,.cells [Iz v0,Q1 v1]),(2,.cells [Iz 0,AV.lst true true [],AV.lst true true [],AV.lst true true []]),(4,Aaz v0 v1 v2)])++AfM ids1 (List.map (List.map AaD.av) at1)) j) (x:=v5.To.toNat) (c:=[]) (M:=m0+1+1) (fun z=>by have:=g4p _ z; omega) (by simp) (fun z hz _=>by have:=g4p z hz; exact if_neg (by omega))).nd;have g4r : ∀ z ∈ (ids1.set v5.To.toNat (m0+1+1)),5≤z∧z≠m0∧z<m0+1+1+1:=fun z hz=>by
   rcases List.mem_or_eq_of_mem_set hz with h | rfl
   ·have:=g4p z h; omega
   ·omega
  have g5r : (at1.set v5.To.toNat (lr++[(AaD.mk i true)])).length=v0.toNat:=by rw [List.length_set]; exact g5p
  generalize (at1.set v5.To.toNat (lr++[(AaD.mk i true)]))=at2 at hF g2r g5r ⊢;generalize (ids1.set v5.To.toNat (m0+1+1))=ids2 at g2r g3r g4r ⊢;refine RG [] [none,none] fun _ _ g r=>?_;try simp
  and_intros <;> first | exact GK g | apply r | omega
  refine hK5 _ _ _ ?_;have ew : IntKind.wrap .i64 (i+1)=i+1:=AnO (by omega) (by omega);rw [ew] at hF ⊢;have hd9 : ∀ p ∈ ([(m0,.cells [Iz v5.From,Iz v5.To,Iz v5.Cap]),(3,.cells (Acz 2 ids2 (List.map (List.map AaD.av) at2))),(0,Gi v2),(1,.cells [Iz v0,Q1 v1]),(2,.cells [Iz 0,AV.lst true true [],AV.lst true true [],AV.lst true true []]),(4,Aaz v0 v1 v2)] : List (Nat×Aau)),p.1 ∉ ids2:=by
   simp only [List.forall_mem_cons,List.not_mem_nil,false_implies,implies_true,and_true];and_intros <;> (intro z; have:=g4r _ z; omega)
  have F9 : Fam (mkH ([(m0,.cells [Iz v5.From,Iz v5.To,Iz v5.Cap]),(3,.cells (Acz 2 ids2 (List.map (List.map AaD.av) at2))),(0,Gi v2),(1,.cells [Iz v0,Q1 v1]),(2,.cells [Iz 0,AV.lst true true [],AV.lst true true [],AV.lst true true []]),(4,Aaz v0 v1 v2)]++AfM ids2 (List.map (List.map AaD.av) at2))) ids2 (List.map (List.map AaD.av) at2):=AeQ (by rw [List.length_map]; exact g2r) g3r hd9;refine Can.nextV (k':=n1) (i+1,ids2,at2) (by omega) ⟨hF,by omega,g2r,g3r,fun z hz=>by have:=g4r z hz; omega,g5r⟩ ?_ ?_ (show _≤5+v0.toNat+3*(i+1).toNat by omega)
  ·show ∀ p ∈ [(4,AV.ptr 2 0),(5,AV.ptr 4 0),(15,Q1 v1),(16,Iz (v1.length : Int)),(17,Iz (i+1))],_
   simp [ew]
  ·intro p hp
   rcases List.mem_append.1 hp with hp | hp
   ·exact (show ∀ p ∈ ([(3,.cells (Acz 2 ids2 (List.map (List.map AaD.av) at2))),(0,Gi v2),(1,.cells [Iz v0,Q1 v1]),(2,.cells [Iz 0,AV.lst true true [],AV.lst true true [],AV.lst true true []]),(4,Aaz v0 v1 v2)] : List (Nat×Aau)),mkH ([(m0,.cells [Iz v5.From,Iz v5.To,Iz v5.Cap]),(3,.cells (Acz 2 ids2 (List.map (List.map AaD.av) at2))),(0,Gi v2),(1,.cells [Iz v0,Q1 v1]),(2,.cells [Iz 0,AV.lst true true [],AV.lst true true [],AV.lst true true []]),(4,Aaz v0 v1 v2)]++AfM ids2 (List.map (List.map AaD.av) at2)) p.1=some p.2 by simp [z0]) p hp
   ·exact F9.mem p hp
 ·replace hF:=Aaa q hF;simp only [Option.some.injEq] at hF;subst hF;refine AW.wkF [(4,AV.ptr 2 0),(5,AV.ptr 4 0),(15,Q1 v1),(16,Iz (v1.length : Int)),(17,Iz i),(18,AV.bool false)] [(3,.cells (Acz 2 ids (List.map (List.map AaD.av) at_))),(0,Gi v2),(1,.cells [Iz v0,Q1 v1]),(2,.cells [Iz 0,AV.lst true true [],AV.lst true true [],AV.lst true true []]),(4,Aaz v0 v1 v2)] ids (List.map (List.map AaD.av) at_) m0 (by simp [q]) (by simp) F0 (by simp) ?_;refine AW.seq fun K7 hK7=>?_;refine CF (by simp) ?_;refine AW.exit ?_;try simp
  refine hK4 _ _ _ ?_;refine AW.wkF [(4,AV.ptr 2 0),(5,AV.ptr 4 0)] [(3,.cells (Acz 2 ids (List.map (List.map AaD.av) at_))),(0,Gi v2),(1,.cells [Iz v0,Q1 v1]),(2,.cells [Iz 0,AV.lst true true [],AV.lst true true [],AV.lst true true []]),(4,Aaz v0 v1 v2)] ids (List.map (List.map AaD.av) at_) m0 (by simp) (by simp) F0 (by simp) ?_;refine AW.frzAll [(4,AV.ptr 2 0),(5,AV.ptr 4 0)] [(0,Gi v2),(1,.cells [Iz v0,Q1 v1]),(2,.cells [Iz 0,AV.lst true true [],AV.lst true true [],AV.lst true true []]),(4,Aaz v0 v1 v2)] 3 2 m0 (by simp) (by simp) ids (List.map (List.map AaD.av) at_) [] (by rw [List.length_map]; exact g2) g3 (fun z=>by have:=g4 _ z; omega) (by
   simp only [List.forall_mem_cons,List.not_mem_nil,false_implies,implies_true,and_true];and_intros <;> (intro z; have:=g4 _ z; omega)) (by simp) ?_
  refine AW.frz 3 (o := .cells (List.map (AV.lst false false) (List.map (List.map AaD.av) at_))) (by simp) rfl [] [(4,.cells [Iz v0,Q1 v1,AV.slc 0 0 1 v2.length false,AV.lst false false (List.map (sl AaD.av) at_)])] trivial ⟨⟨by simp,Aaz v0 v1 v2,by simp,AmP.mk (.cons (.same _) (.cons (.same _) (.cons (.same _) (.cons (.lst (by simp) (by simp) (by simp [g5]) (Aoe _ _ g5) rfl) .nil))))⟩,trivial⟩ ?_;refine SQ [] [none,none] fun _ _ g r=>?_;try simp
  and_intros <;> first | exact GK g | apply r | omega
  refine AW.ret (hQ _ _ _ ?_ (AaJ ?_)).1
  ·simp [Try.f80]
  ·simp
theorem AdX (k : Nat) (v0 : Int) (v1 : (List AaI)) (v2 : (List Int)) (v3 : (List (List AaD))) (v4 : Int) (v5 : Bool) (v6 : Int) (v7 : Int) (hF : AcU k v0 v1 v2 v3 v4 v5=some (v6,v7)) :
 AbF Try.prog 105 [AV.agg [AV.int .i64 v0,Q1 v1,AV.lst false false (List.map (AV.int .i64) v2),AV.lst false false (List.map (sl AaD.av) v3)],AV.agg [AV.int .i64 v4,AV.bool v5]] [] (AV.tup [AV.int .i64 v6,AV.int .i64 v7]) []:=by
 unfold AcU at hF;refine EN Try.func105 ?_;intro c0 w0 Q h0 hQ
 refine WK [(0,AV.agg [Iz v0,Q1 v1,Lz v2,AV.lst false false (List.map (sl AaD.av) v3)]),(1,AV.agg [Iz v4,AV.bool v5])] [] 0 (by simp) (by simp) ?_;refine SW trivial [] [none,none,none,none] [0,1] [(2,AV.ptr 0 0),(3,AV.ptr 1 0)] [] [(0,.cells [Iz v0,Q1 v1,Lz v2,AV.lst false false (List.map (sl AaD.av) v3)]),(1,.cells [Iz v4,AV.bool v5])] 2 ?_;refine SR [] [none,none,none,none,none,none,none,none,none] fun _ _ g r=>?_;obtain ⟨v8,h1,h2,h3,hF⟩:=Aad hF;have h3_:=Aas h3;try simp at h3_
 have h2_:=h2;try simp at h2_
 have F1:=A5 h1 h2 h3 h3_ h2_;refine TL F1 g r [] [(6,AV.ptr 2 0)] [] [(2,.cells [Iz v8.From,Iz v8.To,Iz v8.Cap])] 3 ?_;refine AW.seq fun K13 hK13=>?_;refine SW F1 [] [none,none] [] [(15,AV.bool v5)] [] [] 3 ?_;by_cases h4 : v5=true
 ·replace hF:=AaZ h4 hF;have h4_:=h4;try simp at h4_
  have F2:=A3 F1 h4 h4_;refine CT (by simp [F2] <;> omega) ?_;refine SR [] [none,none,none,none,none,none,none,none,none,none] fun _ _ g r=>?_;obtain ⟨v9,h5,h6,h7,hF⟩:=Aad hF;have h7_:=Aas h7;try simp at h7_
  have h6_:=h6;try simp at h6_
  have F3:=A6 F2 h5 h6 h7 h7_ h6_;refine TL F3 g r [2,3,6,15] [(4,Iz v9),(5,Iz v8.From)] [0,1,2] [] 3 ?_;simp only [Option.some.injEq,Prod.mk.injEq] at hF;obtain ⟨e0,e1⟩:=hF;subst e0 e1;refine AW.ret (hQ _ _ _ ?_ (AaJ ?_)).1
  ·simp [Try.f105,F3]
  ·simp [F3]
 ·replace hF:=Aaa h4 hF;have h4_:=h4;try simp at h4_
  have F4:=A3 F1 h4 h4_;refine CF (by simp [F4] <;> omega) ?_;refine AW.skip ?_;refine hK13 _ _ _ ?_;refine SR [] [none,none,none,none,none,none,none,none,none,none,none,none,none] fun _ _ g r=>?_;obtain ⟨v10,h8,h9,h10,hF⟩:=Aad hF;have h10_:=Aas h10;try simp at h10_
  have h9_:=h9;try simp at h9_
  have F5:=A6 F4 h8 h9 h10 h10_ h9_;refine TL F5 g r [2,3,6,15] [(4,Iz (IntKind.wrap .i64 (v8.Cap-v10))),(5,Iz v8.To)] [0,1,2] [] 3 ?_;simp only [Option.some.injEq,Prod.mk.injEq] at hF;obtain ⟨e0,e1⟩:=hF;subst e0 e1;refine AW.ret (hQ _ _ _ ?_ (AaJ ?_)).1
  ·simp [Try.f105,F5]
  ·simp [F5]
abbrev Aa5 (v0 : Int) (v1 : (List AaI)) (v2 : (List Int)) (v3 : (List (List AaD))) : Aau := .cells [Iz v0,Q1 v1,Lz v2,AV.lst false false (List.map (sl AaD.av) v3)]
theorem AeY (k : Nat) (v0 : Int) (v1 : (List AaI)) (v2 : (List Int)) (v3 : (List (List AaD))) (v4 : (List (Int×AaD))) (hF : AaU k v0 v1 v2 v3=some v4) :
 AbF Try.prog 104 [AV.agg [AV.int .i64 v0,Q1 v1,AV.lst false false (List.map (AV.int .i64) v2),AV.lst false false (List.map (sl AaD.av) v3)]] [] (AV.map 0) [some (.mp (mpA (AV.int .i64) AaD.av v4))]:=by
 unfold AaU at hF;refine EN Try.func104 ?_;intro c0 w0 Q h0 hQ
 refine WK [(0,AV.agg [Iz v0,Q1 v1,Lz v2,AV.lst false false (List.map (sl AaD.av) v3)])] [] 0 (by simp) (by simp) ?_;refine SW trivial [] [none,none] [0] [(1,AV.ptr 0 0)] [] [(0,Aa5 v0 v1 v2 v3)] 1 ?_;refine SW trivial [] [none,none,none,none,none] [] [(3,AV.map 1)] [] [(1,.mp (mpA (AV.int .i64) AaD.av (AbE ([] : (List (Int×AaD))) 0 (AaD.mk (-1) false))))] 2 ?_;refine AW.seq fun K1849 hK1849=>?_;refine SW trivial [14] [none,none] [] [(4,AV.slc 2 0 1 (([0] : List Int).length) true)] [] [(2,Ci ([0] : List Int))] 3 ?_;refine AW.block ?_;refine AW.flg [(4,AV.slc 2 0 1 (([0] : List Int).length) false)] [] ⟨.slc,trivial⟩ trivial (by simp) ?_;refine AW.loopF (α:=(Nat×(List (Int×AaD))×(List Int))) (fun n (v5,v6,v7)=>AaU.L1 k v0 v1 v2 v3 n v5 v6 v7=some v4) (fun (v5,v6,v7)=>[(1,AV.ptr 0 0),(3,AV.map 1),(4,AV.slc 2 v5 1 (v7.length-v5) false)]) (fun (v5,v6,v7)=>[(0,Aa5 v0 v1 v2 v3),(1,.mp (mpA (AV.int .i64) AaD.av v6)),(2,Ci v7)]) 3 k ((0,AbE ([] : (List (Int×AaD))) 0 (AaD.mk (-1) false),([0] : List Int))) hF (by simp) (by simp) (by simp) ?_;rintro (_|n1) ⟨v5,v6,v7⟩ hF K2310 hK2310
 ·try dsimp only at hF
  rw [AaU.L1] at hF; cases hF
 try dsimp only at hF
 rw [AaU.L1] at hF;refine AW.seq fun K2312 hK2312=>?_;refine SW trivial [] [none,none,none] [] [(17,AV.bool (decide (0<(((v7.length-v5) : Nat) : Int))))] [] [] 3 ?_;by_cases h1 : 0<(((v7.length-v5) : Nat) : Int)
 ·replace hF:=AaZ h1 hF;have h1_:=h1;try simp at h1_
  refine CT (by simp [h1,h1_] <;> omega) ?_;refine AW.skip ?_;refine hK2312 _ _ _ ?_;refine AW.seq fun K2388 hK2388=>?_;refine AW.block ?_;refine SR [] [none,none,none,none,none,none,none,none,none] fun _ _ g r=>?_;obtain ⟨⟨h2,h4,h3⟩,hF⟩:=AaR hF;have h3_:=Aa3 h3;obtain ⟨v8,h5,h6,h7,hF⟩:=Aad hF;have h7_:=Aas h7;try simp at h7_
  have h6_:=h6;try simp at h6_
  obtain ⟨v9,h8,h9,h10,hF⟩:=Aad hF;have h10_:=Aas h10;try simp at h10_
  have h9_:=h9;try simp at h9_
  have F1:=A9 h1 h1_ h2 h3 h4 h3_ h5 h6 (A8 h7 h7_ h6_ h8 h9 h10 h10_ h9_);refine TL F1 g r [] [(26,Q2 v9),(27,Iz (v9.length : Int)),(28,Iz 0)] [] [] 3 ?_;refine AW.block ?_;refine AW.loopF (α:=(Nat×Int×(List (Int×AaD))×(List Int))) (fun n (v10,v11,v12,v13)=>AaU.L2 k v0 v1 v2 v3 v9 (fun v5_ v6_ v7_=>AaU.L1 k v0 v1 v2 v3 n1 v5_ v6_ v7_) n v10 v11 v12 v13=some v4) (fun (v10,v11,v12,v13)=>[(1,AV.ptr 0 0),(3,AV.map 1),(4,AV.slc 2 v10 1 (v13.length-v10) false),(26,Q2 v9),(27,Iz (v9.length : Int)),(28,Iz v11)]) (fun (v10,v11,v12,v13)=>[(0,Aa5 v0 v1 v2 v3),(1,.mp (mpA (AV.int .i64) AaD.av v12)),(2,Ci v13)]) 3 k ((v5,0,v6,v7)) hF (by simp [F1]) (by simp [F1]) (by simp) ?_;rintro (_|n2) ⟨v10,v11,v12,v13⟩ hF K2444 hK2444
  ·try dsimp only at hF
   rw [AaU.L2] at hF; cases hF
  try dsimp only at hF
  rw [AaU.L2] at hF;refine SW F1 [] [none] [] [(29,AV.bool (decide (v11<(v9.length : Int))))] [] [] 3 ?_;refine AW.seq fun K2446 hK2446=>?_;by_cases h11 : v11<(v9.length : Int)
  ·replace hF:=AaZ h11 hF;have h11_:=h11;try simp at h11_
   have F2:=A3 F1 h11 h11_;refine CT (by simp [F2] <;> omega) ?_;refine AW.skip ?_;refine hK2446 _ _ _ ?_;refine AW.midF (α:=((List (Int×AaD))×(List Int)×Nat)) (fun (v14,v15,v16)=>AaU.J3 k v11 (fun v10_ v11_ v12_ v13_=>AaU.L2 k v0 v1 v2 v3 v9 (fun v5_ v6_ v7_=>AaU.L1 k v0 v1 v2 v3 n1 v5_ v6_ v7_) n2 v10_ v11_ v12_ v13_) v14 v15 v16=some v4) (fun (v14,v15,v16)=>[(1,AV.ptr 0 0),(3,AV.map 1),(4,AV.slc 2 v16 1 (v15.length-v16) false),(26,Q2 v9),(27,Iz (v9.length : Int)),(28,Iz v11)]) (fun (v14,v15,v16)=>[(0,Aa5 v0 v1 v2 v3),(1,.mp (mpA (AV.int .i64) AaD.av v14)),(2,Ci v15)]) 3 (fun K2455 hK2455=>?_) ?_
   ·refine AW.block ?_;refine SR [] [none,none,none,none] fun _ _ g r=>?_;obtain ⟨v17,h12,h13,h14,hF⟩:=Aad hF;have h14_:=Aas h14;try simp at h14_
    have h13_:=h13;try simp at h13_
    have F3:=A6 F2 h12 h13 h14 h14_ h13_;refine TL F3 g r [] [(6,AV.ptr 3 0)] [] [(3,.cells [Iz v17.arc,AV.bool v17.back])] 4 ?_;obtain ⟨v18,v19,h15,hF⟩:=AbX hF;refine CL F3 [] [none,none,none,none,none,none,none,none] (AdX k _ _ _ _ _ _ _ _ h15) [] [(7,Iz v18),(8,Iz v19)] [] [] 4 ?_;refine AW.midF (α:=Bool) (fun v20=>AaU.J4 k v10 v11 v12 v13 v17 v18 v19 (fun v10_ v11_ v12_ v13_=>AaU.L2 k v0 v1 v2 v3 v9 (fun v5_ v6_ v7_=>AaU.L1 k v0 v1 v2 v3 n1 v5_ v6_ v7_) n2 v10_ v11_ v12_ v13_) v20=some v4) (fun v20=>[(1,AV.ptr 0 0),(3,AV.map 1),(4,AV.slc 2 v10 1 (v13.length-v10) false),(6,AV.ptr 3 0),(7,Iz v18),(8,Iz v19),(10,AV.bool v20),(26,Q2 v9),(27,Iz (v9.length : Int)),(28,Iz v11)]) (fun v20=>[(0,Aa5 v0 v1 v2 v3),(1,.mp (mpA (AV.int .i64) AaD.av v12)),(2,Ci v13),(3,.cells [Iz v17.arc,AV.bool v17.back])]) 4 (fun K2462 hK2462=>?_) ?_
    ·refine RG [] [none,none,none,none,none,none,none,none,none] fun _ _ g r=>?_;rcases Ab0 hF with ⟨v21,h20,hF⟩ | ⟨h21,hF⟩
     ·have F4:=A2 F3 h20;try simp [F4]
      and_intros <;> first | exact GK g | apply r | omega | (simp [maxLen,F4] <;> omega)
      refine hK2462 _ _ _ ?_;refine RN h0 [(0,0),(1,1),(2,2),(3,3)] [(1,AV.ptr 0 0),(3,AV.map 1),(4,AV.slc 2 v10 1 (v13.length-v10) false),(6,AV.ptr 3 0),(7,Iz v18),(8,Iz v19),(10,AV.bool true),(26,Q2 v9),(27,Iz (v9.length : Int)),(28,Iz v11)] [(0,Aa5 v0 v1 v2 v3),(1,.mp (mpA (AV.int .i64) AaD.av v12)),(2,Ci v13),(3,.cells [Iz v17.arc,AV.bool v17.back])] 4 (by simp [F4]) (by simp [F4]) ?_;exact JN (true) hF (by simp [F4]) (by simp [F4])
     ·have F5:=A2 F3 h21;try simp [F5]
      and_intros <;> first | exact GK g | apply r | omega | (simp [maxLen,F5] <;> omega)
      refine hK2462 _ _ _ ?_;refine RN h0 [(0,0),(1,1),(2,2),(3,3)] [(1,AV.ptr 0 0),(3,AV.map 1),(4,AV.slc 2 v10 1 (v13.length-v10) false),(6,AV.ptr 3 0),(7,Iz v18),(8,Iz v19),(10,AV.bool false),(26,Q2 v9),(27,Iz (v9.length : Int)),(28,Iz v11)] [(0,Aa5 v0 v1 v2 v3),(1,.mp (mpA (AV.int .i64) AaD.av v12)),(2,Ci v13),(3,.cells [Iz v17.arc,AV.bool v17.back])] 4 (by simp [F5]) (by simp [F5]) ?_;exact JN (false) hF (by simp [F5]) (by simp [F5])
    ·rintro v20 hF
     try dsimp only at hF
     unfold AaU.J4 at hF;refine SR [] [none,none,none,some (46,true),some (46,true),none] fun _ _ g r=>?_;by_cases h16 : 0<v18
     ·replace hF:=AaZ h16 hF;have h16_:=h16;try simp at h16_
      have F6:=A3 F3 h16 h16_;refine TL F6 g r [7,10] [(49,AV.bool (!v20))] [] [] 4 ?_;by_cases h17 : (!v20)=true
      ·replace hF:=AaZ h17 hF;have h17_:=h17;try simp at h17_
       have F7:=A3 F6 h17 h17_;refine CT (by simp [F7] <;> omega) ?_;refine SW F7 [] [none,none,none,none] [6,49] [] [1,3] [(1,.mp (mpA (AV.int .i64) AaD.av (AbE v12 v19 v17)))] 4 ?_;refine RG [] [none,none,none,none,none] fun _ _ g r=>?_;obtain ⟨⟨h18,h19⟩,hF⟩:=AaR hF;have h18_:=h18;try simp at h18_
       have F8:=A4 F7 h18 h18_ h19;try simp [F8]
       and_intros <;> first | exact GK g | apply r | omega | (simp [maxLen,F8] <;> omega)
       refine hK2455 _ _ _ ?_;refine RN h0 [(0,0),(1,1),(2,4)] [(1,AV.ptr 0 0),(3,AV.map 1),(4,AV.slc 2 0 1 (((v13.drop v10)++([v19] : List Int)).length) false),(26,Q2 v9),(27,Iz (v9.length : Int)),(28,Iz v11)] [(0,Aa5 v0 v1 v2 v3),(1,.mp (mpA (AV.int .i64) AaD.av (AbE v12 v19 v17))),(2,Ci ((v13.drop v10)++([v19] : List Int)))] 3 (by simp [F8] <;> omega) (by simp [F8]) ?_;exact JN ((AbE v12 v19 v17,(v13.drop v10)++([v19] : List Int),0)) hF (by simp [F8]) (by simp [F8])
      ·replace hF:=Aaa h17 hF;have h17_:=h17;try simp at h17_
       have F9:=A3 F6 h17 h17_;refine CF (by simp [F9] <;> omega) ?_;refine AW.skip ?_;refine hK2455 _ _ _ ?_;refine RN h0 [(0,0),(1,1),(2,2)] [(1,AV.ptr 0 0),(3,AV.map 1),(4,AV.slc 2 v10 1 (v13.length-v10) false),(26,Q2 v9),(27,Iz (v9.length : Int)),(28,Iz v11)] [(0,Aa5 v0 v1 v2 v3),(1,.mp (mpA (AV.int .i64) AaD.av v12)),(2,Ci v13)] 3 (by simp [F9]) (by simp [F9]) ?_;exact JN ((v12,v13,v10)) hF (by simp [F9]) (by simp [F9])
     ·replace hF:=Aaa h16 hF;have h16_:=h16;try simp at h16_
      have F10:=A3 F3 h16 h16_;refine TL F10 g r [7,10] [(49,AV.bool false)] [] [] 4 ?_;refine CF (by simp [F10]) ?_;refine AW.skip ?_;refine hK2455 _ _ _ ?_;refine RN h0 [(0,0),(1,1),(2,2)] [(1,AV.ptr 0 0),(3,AV.map 1),(4,AV.slc 2 v10 1 (v13.length-v10) false),(26,Q2 v9),(27,Iz (v9.length : Int)),(28,Iz v11)] [(0,Aa5 v0 v1 v2 v3),(1,.mp (mpA (AV.int .i64) AaD.av v12)),(2,Ci v13)] 3 (by simp [F10]) (by simp [F10]) ?_;exact JN ((v12,v13,v10)) hF (by simp [F10]) (by simp [F10])
   ·rintro ⟨v14,v15,v16⟩ hF
    try dsimp only at hF
    unfold AaU.J3 at hF;refine RG [] [none,none] fun _ _ g r=>?_;try simp [F2]
    and_intros <;> first | exact GK g | apply r | omega | (simp [maxLen,F2] <;> omega)
    refine hK2444 _ _ _ ?_;exact NX (k':=n2) ((v16,IntKind.wrap .i64 (v11+1),v14,v15)) hF (by simp [F2]) (by simp [F2])
  ·replace hF:=Aaa h11 hF;have h11_:=h11;try simp at h11_
   have F11:=A3 F1 h11 h11_;refine CF (by simp [F11] <;> omega) ?_;refine AW.exit ?_;try simp
   refine hK2388 _ _ _ ?_;refine RG [] [none,none,none] fun _ _ g r=>?_;have h22b : v13.length-v10-1=v13.length-(v10+1):=by omega
   obtain ⟨⟨h22,h23⟩,hF⟩:=AaR hF;have h22n:=Ac6 h22;have h22_:=h22;try simp at h22_
   have h23_:=h23;try simp at h23_
   have F12:=A7 F11 h22 h23 h22_ h23_ h22n h22b;try simp [F12]
   and_intros <;> first | exact GK g | apply r | omega | (simp [maxLen,F12] <;> omega)
   refine hK2310 _ _ _ ?_;exact NX (k':=n1) ((v10+(1 : Int).toNat,v12,v13)) hF (by simp [F12]) (by simp [F12])
 ·replace hF:=Aaa h1 hF;have h1_:=h1;try simp at h1_
  refine CF (by simp [h1,h1_] <;> omega) ?_;refine AW.exit ?_;try simp
  refine hK1849 _ _ _ ?_;refine SQ [] [none,none] fun _ _ g r=>?_;try simp [h1,h1_]
  and_intros <;> first | exact GK g | apply r | omega | (simp [h1,h1_,maxLen] <;> omega)
  refine RM h0 [(0,1)] [(2,AV.map 0)] [(0,.mp (mpA (AV.int .i64) AaD.av v6))] 1 (by simp [h1,h1_]) (by simp [h1,h1_]) ?_;simp only [Option.some.injEq] at hF;subst hF;refine AW.ret (hQ _ _ _ ?_ (AaJ ?_)).1
  ·simp [Try.f104,h1,h1_]
  ·simp [h1,h1_]
end Go.TF
