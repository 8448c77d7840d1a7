import Derived.Test.YtelffnegemdicaaPczWal30
import Derived.Test.YtelffnegemdicaaPczWal35
set_option linter.unusedVariables false
set_option linter.unusedSimpArgs false
set_option maxRecDepth 100000
set_option maxHeartbeats 4000000
namespace Go.TF
open Go Go.Abs Go.Proofs Go.Proofs.YtelffnegemdicaaPcT
theorem AiC (k : Nat) (v0 : Int) (v1 : (List AaA)) (v2 : (List Int)) (v3 : Int) (v4 : Int) (v5 : Int) (v6 : Bool) (hF : AbG k v0 v1 v2 v3 v4=some (v5,v6)) :
 AbF Try.prog 64 [AV.agg [AV.int .i64 v0,Q0 v1,AV.lst false false (List.map (AV.int .i64) v2)],AV.int .i64 v3,AV.int .i64 v4] [] (AV.tup [AV.int .i64 v5,AV.bool v6]) []:=by
 unfold AbG at hF;refine EN Try.func64 ?_;intro c0 w0 Q h0 hQ
 refine WK [(0,AV.agg [Iz v0,Q0 v1,Lz v2]),(1,Iz v3),(2,Iz v4)] [] 0 (by simp) (by simp) ?_;refine SW trivial [] [none,none,none] [0] [(3,AV.ptr 0 0)] [] [(0,.cells [Iz v0,Q0 v1,Lz v2])] 1 ?_;refine SW trivial [] [none] [] [(8,Iz 0)] [] [] 1 ?_;refine AW.midF (α:=Int) (fun v7=>AbG.J1 k v1 v3 v4 v7=some (v5,v6)) (fun v7=>[(1,Iz v3),(2,Iz v4),(3,AV.ptr 0 0),(8,Iz v7)]) (fun v7=>[(0,.cells [Iz v0,Q0 v1,Lz v2])]) 1 (fun K59 hK59=>?_) ?_
 ·refine AW.block ?_;refine AW.loopF (α:=Int) (fun n v9=>AbG.L2 k v1 v3 v4 n v9=some (v5,v6)) (fun v9=>[(1,Iz v3),(2,Iz v4),(3,AV.ptr 0 0),(8,Iz v9)]) (fun v9=>[(0,.cells [Iz v0,Q0 v1,Lz v2])]) 1 k (0) hF (by simp) (by simp) (by simp) ?_;rintro (_|n2) v9 hF K72 hK72
  ·try dsimp only at hF
   rw [AbG.L2] at hF; cases hF
  try dsimp only at hF
  rw [AbG.L2] at hF;refine AW.seq fun K74 hK74=>?_;refine SQ [] [none,none,none,none,none,none,some (14,true),some (14,true),some (14,true),some (14,true),some (14,true),some (14,true),some (14,true),some (14,true),some (14,true),none] fun _ _ g r=>?_;by_cases h6 : v9<(v1.length : Int)
  ·replace hF:=AaZ h6 hF;have h6_:=h6;try simp at h6_
   obtain ⟨v10,h7,h8,h9,hF⟩:=Aad hF;have h9_:=Aas h9;try simp at h9_
   have h8_:=h8;try simp at h8_
   have F1:=A7 h6 h6_ h7 h8 h9 h9_ h8_;try simp [F1]
   and_intros
   try any_goals first | omega | (simp [maxLen,F1] <;> omega)
   obtain ⟨v11,h10,hF⟩:=AaN hF;refine AC (AfO k _ _ _ _ _ _ _ h10) (.cons (.same (by simp [F1])) (.cons (.same (by simp [F1])) .nil)) ?_;try simp [F1]
   and_intros <;> first | exact GK g | apply r | omega | (simp [maxLen,F1] <;> omega)
   refine WK [(1,Iz v3),(2,Iz v4),(3,AV.ptr 0 0),(8,Iz v9),(24,AV.bool v11)] [(0,.cells [Iz v0,Q0 v1,Lz v2])] 1 (by simp [F1]) (by simp [F1]) ?_;by_cases h11 : v11=true
   ·replace hF:=AaZ h11 hF;have h11_:=h11;try simp at h11_
    have F2:=A3 F1 h11 h11_;refine CT (by simp [F2] <;> omega) ?_;refine AW.skip ?_;refine hK74 _ _ _ ?_;refine AW.block ?_;refine RG [] [none,none,none] fun _ _ g r=>?_;try simp [F2]
    and_intros <;> first | exact GK g | apply r | omega | (simp [maxLen,F2] <;> omega)
    refine hK72 _ _ _ ?_;exact NX (k':=n2) (IntKind.wrap .i64 (v9+1)) hF (by simp [F2]) (by simp [F2])
   ·replace hF:=Aaa h11 hF;have h11_:=h11;try simp at h11_
    have F3:=A3 F1 h11 h11_;refine CF (by simp [F3] <;> omega) ?_;refine AW.exit ?_;try simp
    refine hK59 _ _ _ ?_;exact JN (v9) hF (by simp [F3]) (by simp [F3])
  ·replace hF:=Aaa h6 hF;have h6_:=h6;try simp at h6_
   try simp [h6,h6_]
   and_intros <;> first | exact GK g | apply r | omega | (simp [h6,h6_,maxLen] <;> omega)
   refine WK [(1,Iz v3),(2,Iz v4),(3,AV.ptr 0 0),(8,Iz v9),(24,AV.bool false)] [(0,.cells [Iz v0,Q0 v1,Lz v2])] 1 (by simp [h6,h6_]) (by simp [h6,h6_]) ?_;refine CF (by simp [h6,h6_]) ?_;refine AW.exit ?_;try simp
   refine hK59 _ _ _ ?_;exact JN (v9) hF (by simp [h6,h6_]) (by simp [h6,h6_])
 ·rintro v7 hF
  try dsimp only at hF
  unfold AbG.J1 at hF;refine SR [] [none,none,none,none,none,none,none,some (33,true),some (33,true),some (33,true),some (33,true),some (33,true),some (33,true),some (33,true),some (33,true),none,none,some (43,true),some (43,true),some (43,true),some (43,true),some (43,true),some (43,true),some (43,true),some (43,true),none,none,none] fun _ _ g r=>?_;by_cases h1 : v7<(v1.length : Int)
  ·replace hF:=AaZ h1 hF;have h1_:=h1;try simp at h1_
   obtain ⟨v8,h2,h3,h4,hF⟩:=Aad hF;have h4_:=Aas h4;try simp at h4_
   have h3_:=h3;try simp at h3_
   by_cases h5 : v8.From=v3
   ·replace hF:=AaZ h5 hF;have h5q : v8.From=v3:=h5;have h5_:=Abf h5q;have h5__:=Abe h5q;have F4:=A9 h1 h1_ h2 h3 h4 h4_ h3_ h5_ h5__;refine TL F4 g r [1,2,3,8] [(6,Iz v7),(7,AV.bool (v8.To==v4))] [0] [] 1 ?_;simp only [Option.some.injEq,Prod.mk.injEq] at hF;obtain ⟨e0,e1⟩:=hF;subst e0 e1;refine AW.ret (hQ _ _ _ ?_ (AaJ ?_)).1
    ·simp [Try.f64,F4]
    ·simp [F4]
   ·replace hF:=Aaa h5 hF;have h5_:=AbY h5;have h5__:=Abc h5;have F5:=A9 h1 h1_ h2 h3 h4 h4_ h3_ h5 (A2 h5_ h5__);refine TL F5 g r [1,2,3,8] [(6,Iz v7),(7,AV.bool false)] [0] [] 1 ?_;simp only [Option.some.injEq,Prod.mk.injEq] at hF;obtain ⟨e0,e1⟩:=hF;subst e0 e1;refine AW.ret (hQ _ _ _ ?_ (AaJ ?_)).1
    ·simp [Try.f64,F5]
    ·simp [F5]
  ·replace hF:=Aaa h1 hF;have h1_:=h1;try simp at h1_
   refine TL (A2 h1 h1_) g r [1,2,3,8] [(6,Iz v7),(7,AV.bool false)] [0] [] 1 ?_;simp only [Option.some.injEq,Prod.mk.injEq] at hF;obtain ⟨e0,e1⟩:=hF;subst e0 e1;refine AW.ret (hQ _ _ _ ?_ (AaJ ?_)).1
   ·simp [Try.f64,h1,h1_]
   ·simp [h1,h1_]
theorem Ad3 (k : Nat) (v0 : Int) (v1 : (List AaA)) (v2 : (List Int)) (v3 : Int) (v4 : (List AaA)) (v5 : (List Int)) (hF : AcG k v0 v1 v2=some (v3,v4,v5)) :
 AbF Try.prog 56 [AV.agg [AV.int .i64 v0,Q0 v1,AV.lst false false (List.map (AV.int .i64) v2)]] [] (AV.agg [AV.int .i64 v3,AV.slc 0 0 3 v4.length false,AV.slc 1 0 1 v5.length false]) [some (.grow (AaM (List.map AaA.av v4))),some (Gi v5)]:=by
 unfold AcG at hF;refine EN Try.func56 ?_;intro c0 w0 Q h0 hQ
 refine WK [(0,AV.agg [Iz v0,Q0 v1,Lz v2])] [] 0 (by simp) (by simp) ?_;refine SW trivial [] [none,none] [0] [(1,AV.ptr 0 0),(2,AV.ptr 1 0)] [] [(0,.cells [Iz v0,Q0 v1,Lz v2]),(1,.cells [Iz 0,AV.lst true true (List.map AaA.av ([] : List AaA)),AV.lst true true (List.map (AV.int .i64) ([] : List Int))])] 2 ?_;refine SQ [7,10] [none,none,none,none,none,none,none,none,none,none] fun _ _ g r=>?_;obtain ⟨h1,hF⟩:=AaR hF;have h1_:=h1;try simp at h1_
 obtain ⟨h2,hF⟩:=AaR hF;have h2_:=h2;try simp at h2_
 try simp [h1,h2]
 and_intros <;> first | exact GK g | apply r | omega | (simp [h1,h2,maxLen] <;> omega)
 refine RM h0 [(0,2),(1,3),(2,1)] [(2,AV.ptr 2 0)] [(0,.grow (AaM (List.map AaA.av v1))),(1,Gi v2),(2,.cells [Iz v0,AV.slc 0 0 3 v1.length false,AV.slc 1 0 1 v2.length false])] 3 (by simp [h1,h2]) (by simp [h1,h2]) ?_;simp only [Option.some.injEq,Prod.mk.injEq] at hF;obtain ⟨e0,e1,e2⟩:=hF;subst e0 e1 e2;refine AW.ret (hQ _ _ _ ?_ (AaJ ?_)).1
 ·simp [Try.f56,h1,h2]
 ·simp [h1,h2]
abbrev AfS  : Aau := .cells [Iz 0,AV.lst true true (List.map AaA.av ([] : List AaA)),AV.lst true true (List.map (AV.int .i64) ([] : List Int))]
abbrev AbN  : Aau := .cells [Iz 0,AV.slc 0 0 3 (([] : List AaA).length) false,AV.slc 1 0 1 (([] : List Int).length) false]
theorem AhU (k : Nat) (v0 : Int) (v1 : (List AaA)) (v2 : (List Int)) (v3 : Int) (v4 : Int) (v5 : Int) (v6 : Int) (v7 : (List AaA)) (v8 : (List Int)) (v9 : Int) (hF : AdO k v0 v1 v2 v3 v4 v5=some (v6,v7,v8,v9)) :
 AbF Try.prog 35 [AV.agg [AV.int .i64 v0,Q0 v1,AV.lst false false (List.map (AV.int .i64) v2)],AV.agg [AV.int .i64 v3,AV.int .i64 v4,AV.int .i64 v5]] [] (AV.tup [AV.agg [AV.int .i64 v6,AV.slc 0 0 3 v7.length false,AV.slc 1 0 1 v8.length false],AV.int .i64 v9]) [some (.grow (AaM (List.map AaA.av v7))),some (Gi v8)]:=by
 unfold AdO at hF;refine EN Try.func35 ?_;intro c0 w0 Q h0 hQ
 refine WK [(0,AV.agg [Iz v0,Q0 v1,Lz v2]),(1,AV.agg [Iz v3,Iz v4,Iz v5])] [] 0 (by simp) (by simp) ?_;refine SW trivial [] [none,none,none,none] [0,1] [(2,AV.ptr 0 0),(3,AV.ptr 1 0),(4,AV.ptr 2 0)] [] [(0,.cells [Iz v0,Q0 v1,Lz v2]),(1,.cells [Iz v3,Iz v4,Iz v5]),(2,AfS )] 3 ?_;refine AW.seq fun K45 hK45=>?_;obtain ⟨v10,h1,hF⟩:=AaN hF;refine CL trivial [] [none,none,none] (AiD k _ _ _ _ h1) [] [(11,AV.bool (v10 !=0))] [] [] 3 ?_;by_cases h2 : v10≠0
 ·replace hF:=AaZ h2 hF;have h2_:=AbY h2;have h2__:=Abc h2;have F1:=A3 h2 h2_ h2__;refine CT (by simp [F1] <;> omega) ?_;refine SW F1 [] [none,none,none] [2,3,11] [(5,Iz 14)] [0,1] [] 3 ?_;refine AW.ownC 2 1 3 true (cs:=[Iz 0,AV.lst true true (List.map AaA.av ([] : List AaA)),AV.lst true true (List.map (AV.int .i64) ([] : List Int))]) (by simp [F1]) (by simp) ?_;refine AW.ownC 2 2 1 true (cs:=[Iz 0,AV.slc 3 0 3 (([] : List AaA).length) false,AV.lst true true (List.map (AV.int .i64) ([] : List Int))]) (by simp [F1]) (by simp) ?_;refine RM h0 [(0,3),(1,4),(2,2)] [(4,AV.ptr 2 0),(5,Iz 14)] [(0,.grow (AaM (List.map AaA.av ([] : List AaA)))),(1,Gi ([] : List Int)),(2,AbN )] 3 (by simp [F1]) (by simp [F1]) ?_;simp only [Option.some.injEq,Prod.mk.injEq] at hF;obtain ⟨e0,e1,e2,e3⟩:=hF;subst e0 e1 e2 e3;refine AW.ret (hQ _ _ _ ?_ (AaJ ?_)).1
  ·simp [Try.f35,F1]
  ·simp [F1]
 ·replace hF:=Aaa h2 hF;have h2q : v10=0:=Classical.not_not.1 h2;have h2_:=Abf h2q;have h2__:=Abe h2q;have F2:=A3 h2_ h2__ h2q;refine CF (by simp [F2] <;> omega) ?_;refine AW.skip ?_;refine hK45 _ _ _ ?_;obtain ⟨v11,v12,h3,hF⟩:=AbX hF;refine CL F2 [] [none,none,none,none,none,none,none,none,none,none,none] (AiC k _ _ _ _ _ _ _ h3) [11] [(6,Iz v11),(7,AV.bool v12)] [] [] 3 ?_;refine AW.seq fun K64 hK64=>?_;refine AW.block ?_;refine SR [] [none,none,none,none,some (26,false),some (26,false),some (26,false),some (26,false),some (26,false),none,none,some (33,false),some (33,false),some (33,false),none,none,some (38,false),some (38,false),some (38,false),some (38,false),some (38,false),none,none,some (45,false),some (45,false),some (45,false),some (45,false),some (45,false),none,none,some (52,false),some (52,false),some (52,false),some (52,false),some (52,false),none,none,some (59,false),some (59,false),some (59,false),some (59,false),some (59,false),none,none] fun _ _ g r=>?_;by_cases h4 : v3<0
  ·replace hF:=AaZ h4 hF;have h4_:=h4;try simp at h4_
   have F3:=A3 F2 h4 h4_;refine TL F3 g r [] [(22,AV.bool true)] [] [] 3 ?_;refine CT (by simp [F3]) ?_;refine SW F3 [] [none,none,none] [2,3,6,7,22] [(5,Iz 4)] [0,1] [] 3 ?_;refine AW.ownC 2 1 3 true (cs:=[Iz 0,AV.lst true true (List.map AaA.av ([] : List AaA)),AV.lst true true (List.map (AV.int .i64) ([] : List Int))]) (by simp [F3]) (by simp) ?_;refine AW.ownC 2 2 1 true (cs:=[Iz 0,AV.slc 3 0 3 (([] : List AaA).length) false,AV.lst true true (List.map (AV.int .i64) ([] : List Int))]) (by simp [F3]) (by simp) ?_;refine RM h0 [(0,3),(1,4),(2,2)] [(4,AV.ptr 2 0),(5,Iz 4)] [(0,.grow (AaM (List.map AaA.av ([] : List AaA)))),(1,Gi ([] : List Int)),(2,AbN )] 3 (by simp [F3]) (by simp [F3]) ?_;simp only [Option.some.injEq,Prod.mk.injEq] at hF;obtain ⟨e0,e1,e2,e3⟩:=hF;subst e0 e1 e2 e3;refine AW.ret (hQ _ _ _ ?_ (AaJ ?_)).1
   ·simp [Try.f35,F3]
   ·simp [F3]
  ·replace hF:=Aaa h4 hF;have h4_:=h4;try simp at h4_
   by_cases h5 : v0≤v3
   ·replace hF:=AaZ h5 hF;have h5_:=h5;try simp at h5_
    have F4:=A5 F2 h4 h4_ h5 h5_;refine TL F4 g r [] [(22,AV.bool true)] [] [] 3 ?_;refine CT (by simp [F4]) ?_;refine SW F4 [] [none,none,none] [2,3,6,7,22] [(5,Iz 4)] [0,1] [] 3 ?_;refine AW.ownC 2 1 3 true (cs:=[Iz 0,AV.lst true true (List.map AaA.av ([] : List AaA)),AV.lst true true (List.map (AV.int .i64) ([] : List Int))]) (by simp [F4]) (by simp) ?_;refine AW.ownC 2 2 1 true (cs:=[Iz 0,AV.slc 3 0 3 (([] : List AaA).length) false,AV.lst true true (List.map (AV.int .i64) ([] : List Int))]) (by simp [F4]) (by simp) ?_;refine RM h0 [(0,3),(1,4),(2,2)] [(4,AV.ptr 2 0),(5,Iz 4)] [(0,.grow (AaM (List.map AaA.av ([] : List AaA)))),(1,Gi ([] : List Int)),(2,AbN )] 3 (by simp [F4]) (by simp [F4]) ?_;simp only [Option.some.injEq,Prod.mk.injEq] at hF;obtain ⟨e0,e1,e2,e3⟩:=hF;subst e0 e1 e2 e3;refine AW.ret (hQ _ _ _ ?_ (AaJ ?_)).1
    ·simp [Try.f35,F4]
    ·simp [F4]
   ·replace hF:=Aaa h5 hF;have h5_:=h5;try simp at h5_
    by_cases h6 : v4<0
    ·replace hF:=AaZ h6 hF;have h6_:=h6;try simp at h6_
     have F5:=A7 F2 h4 h4_ h5 h5_ h6 h6_;refine TL F5 g r [] [(22,AV.bool true)] [] [] 3 ?_;refine CT (by simp [F5]) ?_;refine SW F5 [] [none,none,none] [2,3,6,7,22] [(5,Iz 4)] [0,1] [] 3 ?_;refine AW.ownC 2 1 3 true (cs:=[Iz 0,AV.lst true true (List.map AaA.av ([] : List AaA)),AV.lst true true (List.map (AV.int .i64) ([] : List Int))]) (by simp [F5]) (by simp) ?_;refine AW.ownC 2 2 1 true (cs:=[Iz 0,AV.slc 3 0 3 (([] : List AaA).length) false,AV.lst true true (List.map (AV.int .i64) ([] : List Int))]) (by simp [F5]) (by simp) ?_;refine RM h0 [(0,3),(1,4),(2,2)] [(4,AV.ptr 2 0),(5,Iz 4)] [(0,.grow (AaM (List.map AaA.av ([] : List AaA)))),(1,Gi ([] : List Int)),(2,AbN )] 3 (by simp [F5]) (by simp [F5]) ?_;simp only [Option.some.injEq,Prod.mk.injEq] at hF;obtain ⟨e0,e1,e2,e3⟩:=hF;subst e0 e1 e2 e3;refine AW.ret (hQ _ _ _ ?_ (AaJ ?_)).1
     ·simp [Try.f35,F5]
     ·simp [F5]
    ·replace hF:=Aaa h6 hF;have h6_:=h6;try simp at h6_
     by_cases h7 : v0≤v4
     ·replace hF:=AaZ h7 hF;have h7_:=h7;try simp at h7_
      have F6:=A9 F2 h4 h4_ h5 h5_ h6 h6_ h7 h7_;refine TL F6 g r [] [(22,AV.bool true)] [] [] 3 ?_;refine CT (by simp [F6]) ?_;refine SW F6 [] [none,none,none] [2,3,6,7,22] [(5,Iz 4)] [0,1] [] 3 ?_;refine AW.ownC 2 1 3 true (cs:=[Iz 0,AV.lst true true (List.map AaA.av ([] : List AaA)),AV.lst true true (List.map (AV.int .i64) ([] : List Int))]) (by simp [F6]) (by simp) ?_;refine AW.ownC 2 2 1 true (cs:=[Iz 0,AV.slc 3 0 3 (([] : List AaA).length) false,AV.lst true true (List.map (AV.int .i64) ([] : List Int))]) (by simp [F6]) (by simp) ?_;refine RM h0 [(0,3),(1,4),(2,2)] [(4,AV.ptr 2 0),(5,Iz 4)] [(0,.grow (AaM (List.map AaA.av ([] : List AaA)))),(1,Gi ([] : List Int)),(2,AbN )] 3 (by simp [F6]) (by simp [F6]) ?_;simp only [Option.some.injEq,Prod.mk.injEq] at hF;obtain ⟨e0,e1,e2,e3⟩:=hF;subst e0 e1 e2 e3;refine AW.ret (hQ _ _ _ ?_ (AaJ ?_)).1
      ·simp [Try.f35,F6]
      ·simp [F6]
     ·replace hF:=Aaa h7 hF;have h7_:=h7;try simp at h7_
      by_cases h8 : v3=v4
      ·replace hF:=AaZ h8 hF;have h8q : v3=v4:=h8;have h8_:=Abf h8q;have h8__:=Abe h8q;have F7:=A9 F2 h4 h4_ h5 h5_ h6 h6_ h7 (A3 h7_ h8_ h8__);refine TL F7 g r [] [(22,AV.bool true)] [] [] 3 ?_;refine CT (by simp [F7]) ?_;refine SW F7 [] [none,none,none] [2,3,6,7,22] [(5,Iz 4)] [0,1] [] 3 ?_;refine AW.ownC 2 1 3 true (cs:=[Iz 0,AV.lst true true (List.map AaA.av ([] : List AaA)),AV.lst true true (List.map (AV.int .i64) ([] : List Int))]) (by simp [F7]) (by simp) ?_;refine AW.ownC 2 2 1 true (cs:=[Iz 0,AV.slc 3 0 3 (([] : List AaA).length) false,AV.lst true true (List.map (AV.int .i64) ([] : List Int))]) (by simp [F7]) (by simp) ?_;refine RM h0 [(0,3),(1,4),(2,2)] [(4,AV.ptr 2 0),(5,Iz 4)] [(0,.grow (AaM (List.map AaA.av ([] : List AaA)))),(1,Gi ([] : List Int)),(2,AbN )] 3 (by simp [F7]) (by simp [F7]) ?_;simp only [Option.some.injEq,Prod.mk.injEq] at hF;obtain ⟨e0,e1,e2,e3⟩:=hF;subst e0 e1 e2 e3;refine AW.ret (hQ _ _ _ ?_ (AaJ ?_)).1
       ·simp [Try.f35,F7]
       ·simp [F7]
      ·replace hF:=Aaa h8 hF;have h8_:=AbY h8;have h8__:=Abc h8;have F8:=A9 F2 h4 h4_ h5 h5_ h6 h6_ h7 (A4 h7_ h8 h8_ h8__);try simp [F8]
       and_intros
       try any_goals first | omega | (simp [maxLen,F8] <;> omega)
       obtain ⟨v13,h9,hF⟩:=AaN hF;refine AC (Abj k _ _ _ h9) (.cons (.same (by simp [F8])) (.cons (.same (by simp [F8])) .nil)) ?_;by_cases h10 : v13=true
       ·replace hF:=AaZ h10 hF;have h10_:=h10;try simp at h10_
        have F9:=A3 F8 h10 h10_;refine TL F9 g r [] [(22,AV.bool true)] [] [] 3 ?_;refine CT (by simp [F9]) ?_;refine SW F9 [] [none,none,none] [2,3,6,7,22] [(5,Iz 4)] [0,1] [] 3 ?_;refine AW.ownC 2 1 3 true (cs:=[Iz 0,AV.lst true true (List.map AaA.av ([] : List AaA)),AV.lst true true (List.map (AV.int .i64) ([] : List Int))]) (by simp [F9]) (by simp) ?_;refine AW.ownC 2 2 1 true (cs:=[Iz 0,AV.slc 3 0 3 (([] : List AaA).length) false,AV.lst true true (List.map (AV.int .i64) ([] : List Int))]) (by simp [F9]) (by simp) ?_;refine RM h0 [(0,3),(1,4),(2,2)] [(4,AV.ptr 2 0),(5,Iz 4)] [(0,.grow (AaM (List.map AaA.av ([] : List AaA)))),(1,Gi ([] : List Int)),(2,AbN )] 3 (by simp [F9]) (by simp [F9]) ?_;simp only [Option.some.injEq,Prod.mk.injEq] at hF;obtain ⟨e0,e1,e2,e3⟩:=hF;subst e0 e1 e2 e3;refine AW.ret (hQ _ _ _ ?_ (AaJ ?_)).1
        ·simp [Try.f35,F9]
        ·simp [F9]
       ·replace hF:=Aaa h10 hF;have h10_:=h10;try simp at h10_
        have F10:=A3 F8 h10 h10_;try simp [F10]
        and_intros
        try any_goals first | omega | (simp [maxLen,F10] <;> omega)
        obtain ⟨v14,h11,hF⟩:=AaN hF;refine AC (Abj k _ _ _ h11) (.cons (.same (by simp [F10])) (.cons (.same (by simp [F10])) .nil)) ?_;refine TL F10 g r [] [(22,AV.bool v14)] [] [] 3 ?_;by_cases h12 : v14=true
        ·replace hF:=AaZ h12 hF;have h12_:=h12;try simp at h12_
         have F11:=A3 F10 h12 h12_;refine CT (by simp [F11] <;> omega) ?_;refine SW F11 [] [none,none,none] [2,3,6,7,22] [(5,Iz 4)] [0,1] [] 3 ?_;refine AW.ownC 2 1 3 true (cs:=[Iz 0,AV.lst true true (List.map AaA.av ([] : List AaA)),AV.lst true true (List.map (AV.int .i64) ([] : List Int))]) (by simp [F11]) (by simp) ?_;refine AW.ownC 2 2 1 true (cs:=[Iz 0,AV.slc 3 0 3 (([] : List AaA).length) false,AV.lst true true (List.map (AV.int .i64) ([] : List Int))]) (by simp [F11]) (by simp) ?_;refine RM h0 [(0,3),(1,4),(2,2)] [(4,AV.ptr 2 0),(5,Iz 4)] [(0,.grow (AaM (List.map AaA.av ([] : List AaA)))),(1,Gi ([] : List Int)),(2,AbN )] 3 (by simp [F11]) (by simp [F11]) ?_;simp only [Option.some.injEq,Prod.mk.injEq] at hF;obtain ⟨e0,e1,e2,e3⟩:=hF;subst e0 e1 e2 e3;refine AW.ret (hQ _ _ _ ?_ (AaJ ?_)).1
         ·simp [Try.f35,F11]
         ·simp [F11]
        ·replace hF:=Aaa h12 hF;have h12_:=h12;try simp at h12_
         have F12:=A3 F10 h12 h12_;refine CF (by simp [F12] <;> omega) ?_;refine SR [] [none,none,none,none,some (71,false),some (71,false),some (71,false),none,none] fun _ _ g r=>?_;by_cases h13 : v5<1
         ·replace hF:=AaZ h13 hF;have h13_:=h13;try simp at h13_
          have F13:=A3 F12 h13 h13_;refine TL F13 g r [22] [(67,AV.bool true)] [] [] 3 ?_;refine CT (by simp [F13]) ?_;refine SW F13 [] [none,none,none] [2,3,6,7,67] [(5,Iz 2)] [0,1] [] 3 ?_;refine AW.ownC 2 1 3 true (cs:=[Iz 0,AV.lst true true (List.map AaA.av ([] : List AaA)),AV.lst true true (List.map (AV.int .i64) ([] : List Int))]) (by simp [F13]) (by simp) ?_;refine AW.ownC 2 2 1 true (cs:=[Iz 0,AV.slc 3 0 3 (([] : List AaA).length) false,AV.lst true true (List.map (AV.int .i64) ([] : List Int))]) (by simp [F13]) (by simp) ?_;refine RM h0 [(0,3),(1,4),(2,2)] [(4,AV.ptr 2 0),(5,Iz 2)] [(0,.grow (AaM (List.map AaA.av ([] : List AaA)))),(1,Gi ([] : List Int)),(2,AbN )] 3 (by simp [F13]) (by simp [F13]) ?_;simp only [Option.some.injEq,Prod.mk.injEq] at hF;obtain ⟨e0,e1,e2,e3⟩:=hF;subst e0 e1 e2 e3;refine AW.ret (hQ _ _ _ ?_ (AaJ ?_)).1
          ·simp [Try.f35,F13]
          ·simp [F13]
         ·replace hF:=Aaa h13 hF;have h13_:=h13;try simp at h13_
          have F14:=A3 F12 h13 h13_;refine TL F14 g r [22] [(67,AV.bool (decide (3<v5)))] [] [] 3 ?_;by_cases h14 : 3<v5
          ·replace hF:=AaZ h14 hF;have h14_:=h14;try simp at h14_
           have F15:=A3 F14 h14 h14_;refine CT (by simp [F15] <;> omega) ?_;refine SW F15 [] [none,none,none] [2,3,6,7,67] [(5,Iz 2)] [0,1] [] 3 ?_;refine AW.ownC 2 1 3 true (cs:=[Iz 0,AV.lst true true (List.map AaA.av ([] : List AaA)),AV.lst true true (List.map (AV.int .i64) ([] : List Int))]) (by simp [F15]) (by simp) ?_;refine AW.ownC 2 2 1 true (cs:=[Iz 0,AV.slc 3 0 3 (([] : List AaA).length) false,AV.lst true true (List.map (AV.int .i64) ([] : List Int))]) (by simp [F15]) (by simp) ?_;refine RM h0 [(0,3),(1,4),(2,2)] [(4,AV.ptr 2 0),(5,Iz 2)] [(0,.grow (AaM (List.map AaA.av ([] : List AaA)))),(1,Gi ([] : List Int)),(2,AbN )] 3 (by simp [F15]) (by simp [F15]) ?_;simp only [Option.some.injEq,Prod.mk.injEq] at hF;obtain ⟨e0,e1,e2,e3⟩:=hF;subst e0 e1 e2 e3;refine AW.ret (hQ _ _ _ ?_ (AaJ ?_)).1
           ·simp [Try.f35,F15]
           ·simp [F15]
          ·replace hF:=Aaa h14 hF;have h14_:=h14;try simp at h14_
           have F16:=A3 F14 h14 h14_;refine CF (by simp [F16] <;> omega) ?_;refine SW F16 [] [none,none] [7,67] [(77,AV.bool v12)] [] [] 3 ?_;by_cases h15 : v12=true
           ·replace hF:=AaZ h15 hF;have h15_:=h15;try simp at h15_
            have F17:=A3 F16 h15 h15_;refine CT (by simp [F17] <;> omega) ?_;refine SW F17 [] [none,none,none] [2,3,6,77] [(5,Iz 19)] [0,1] [] 3 ?_;refine AW.ownC 2 1 3 true (cs:=[Iz 0,AV.lst true true (List.map AaA.av ([] : List AaA)),AV.lst true true (List.map (AV.int .i64) ([] : List Int))]) (by simp [F17]) (by simp) ?_;refine AW.ownC 2 2 1 true (cs:=[Iz 0,AV.slc 3 0 3 (([] : List AaA).length) false,AV.lst true true (List.map (AV.int .i64) ([] : List Int))]) (by simp [F17]) (by simp) ?_;refine RM h0 [(0,3),(1,4),(2,2)] [(4,AV.ptr 2 0),(5,Iz 19)] [(0,.grow (AaM (List.map AaA.av ([] : List AaA)))),(1,Gi ([] : List Int)),(2,AbN )] 3 (by simp [F17]) (by simp [F17]) ?_;simp only [Option.some.injEq,Prod.mk.injEq] at hF;obtain ⟨e0,e1,e2,e3⟩:=hF;subst e0 e1 e2 e3;refine AW.ret (hQ _ _ _ ?_ (AaJ ?_)).1
            ·simp [Try.f35,F17]
            ·simp [F17]
           ·replace hF:=Aaa h15 hF;have h15_:=h15;try simp at h15_
            have F18:=A3 F16 h15 h15_;refine CF (by simp [F18] <;> omega) ?_;refine SW F18 [] [none,none,none,none,none] [77] [(80,AV.bool ((v1.length : Int)==500))] [] [] 3 ?_;by_cases h16 : (v1.length : Int)=500
            ·replace hF:=AaZ h16 hF;have h16q : (v1.length : Int)=500:=h16;have h16_:=Abf h16q;have h16__:=Abe h16q;have F19:=A4 F18 h16_ h16__ h16q;refine CT (by simp [F19] <;> omega) ?_;refine SW F19 [] [none,none,none] [2,3,6,80] [(5,Iz 3)] [0,1] [] 3 ?_;refine AW.ownC 2 1 3 true (cs:=[Iz 0,AV.lst true true (List.map AaA.av ([] : List AaA)),AV.lst true true (List.map (AV.int .i64) ([] : List Int))]) (by simp [F19]) (by simp) ?_;refine AW.ownC 2 2 1 true (cs:=[Iz 0,AV.slc 3 0 3 (([] : List AaA).length) false,AV.lst true true (List.map (AV.int .i64) ([] : List Int))]) (by simp [F19]) (by simp) ?_;refine RM h0 [(0,3),(1,4),(2,2)] [(4,AV.ptr 2 0),(5,Iz 3)] [(0,.grow (AaM (List.map AaA.av ([] : List AaA)))),(1,Gi ([] : List Int)),(2,AbN )] 3 (by simp [F19]) (by simp [F19]) ?_;simp only [Option.some.injEq,Prod.mk.injEq] at hF;obtain ⟨e0,e1,e2,e3⟩:=hF;subst e0 e1 e2 e3;refine AW.ret (hQ _ _ _ ?_ (AaJ ?_)).1
             ·simp [Try.f35,F19]
             ·simp [F19]
            ·replace hF:=Aaa h16 hF;have h16_:=AbY h16;have h16__:=Abc h16;have F20:=A4 F18 h16 h16_ h16__;refine CF (by simp [F20] <;> omega) ?_;refine AW.skip ?_;refine hK64 _ _ _ ?_;obtain ⟨v15,v16,v17,h17,hF⟩:=Adw hF;refine CL F20 [] [none,none,none,none] (Ad3 k _ _ _ _ _ _ h17) [80] [(8,AV.ptr 5 0)] [] [(3,.grow (AaM (List.map AaA.av v16))),(4,Gi v17),(5,.cells [Iz v15,AV.slc 3 0 3 v16.length false,AV.slc 4 0 1 v17.length false])] 6 ?_;refine SQ [92] [none,none,none,none,none,none,none,none,none,none,none,none,none,none,none] fun _ _ g r=>?_;obtain ⟨⟨h18,h19⟩,hF⟩:=AaR hF;have h18_:=h18;try simp at h18_
             have h19_:=h19;try simp at h19_
             obtain ⟨h20,hF⟩:=AaR hF;have h20_:=h20;try simp at h20_
             obtain ⟨h21,hF⟩:=AaR hF;have h21_:=h21;try simp at h21_
             obtain ⟨⟨h22,h23⟩,hF⟩:=AaR hF;have h22_:=h22;try simp at h22_
             have h23_:=h23;try simp at h23_
             obtain ⟨h24,hF⟩:=AaR hF;have h24_:=h24;try simp at h24_
             have F21:=A9 F20 h18 h19 h18_ h19_ h20 h21 h22 (A4 h23 h22_ h23_ h24);try simp [F21]
             and_intros <;> first | exact GK g | apply r | omega | (simp [maxLen,F21] <;> omega)
             refine WK [(4,AV.ptr 2 0),(8,AV.ptr 5 0)] [(2,AfS ),(4,Gi v17),(5,.cells [Iz v15,AV.slc 8 0 3 ((((v1.take (v11).toNat)++([(AaA.mk v3 v4 v5)] : List AaA))++(v1.drop (v11).toNat)).length) false,AV.slc 4 0 1 v17.length false]),(8,.grow (AaM (List.map AaA.av (((v1.take (v11).toNat)++([(AaA.mk v3 v4 v5)] : List AaA))++(v1.drop (v11).toNat)))))] 9 (by simp [F21]) (by simp [F21] <;> omega) ?_;refine SQ [] [none,none,none] fun _ _ g r=>?_;try simp [F21]
             and_intros <;> first | exact GK g | apply r | omega | (simp [maxLen,F21] <;> omega)
             refine RM h0 [(0,8),(1,4),(2,2)] [(4,AV.ptr 2 0),(5,Iz 0)] [(0,.grow (AaM (List.map AaA.av (((v1.take (v11).toNat)++([(AaA.mk v3 v4 v5)] : List AaA))++(v1.drop (v11).toNat))))),(1,Gi v17),(2,.cells [Iz v15,AV.slc 0 0 3 ((((v1.take (v11).toNat)++([(AaA.mk v3 v4 v5)] : List AaA))++(v1.drop (v11).toNat)).length) false,AV.slc 1 0 1 v17.length false])] 3 (by simp [F21]) (by simp [F21] <;> omega) ?_;simp only [Option.some.injEq,Prod.mk.injEq] at hF;obtain ⟨e0,e1,e2,e3⟩:=hF;subst e0 e1 e2 e3;refine AW.ret (hQ _ _ _ ?_ (AaJ ?_)).1
             ·simp [Try.f35,F21]
             ·simp [F21]
abbrev Abp  : Aau := .cells [Iz 0,AV.slc 2 0 3 (([] : List AaA).length) false,AV.slc 3 0 1 (([] : List Int).length) false]
abbrev AcB  : Aau := .cells [Iz 0,AV.lst true true (List.map AaA.av ([] : List AaA)),AV.lst true true (List.map (AV.int .i64) ([] : List Int))]
theorem AfY (k : Nat) (v0 : (List Int)) (v1 : Int) (v2 : Int) (v3 : (List AaA)) (v4 : (List Int)) (v5 : Int) (hF : AaX k v0 v1=some (v2,v3,v4,v5)) :
 AbF Try.prog 12 [AV.ptr 0 0] [.cells [AV.lst false false (List.map (AV.int .i64) v0),AV.int .i64 v1]] (AV.agg [AV.int .i64 v2,AV.slc 1 0 3 v3.length false,AV.slc 2 0 1 v4.length false]) [some (.cells [AV.lst false false (List.map (AV.int .i64) v0),AV.int .i64 v5]),some (.grow (AaM (List.map AaA.av v3))),some (Gi v4)]:=by
 unfold AaX at hF;refine EN Try.func12 ?_;intro c0 w0 Q h0 hQ
 refine WK [(0,AV.ptr 0 0)] [(0,.cells [Lz v0,Iz v1])] 1 (by simp) (by simp) ?_;refine SW trivial [] [none] [] [(2,AV.ptr 1 0)] [] [(1,AcB )] 2 ?_;refine SR [] [none,none,none,none,none,none] fun _ _ g r=>?_;try simp
 and_intros
 try any_goals first | omega | (simp [maxLen] <;> omega)
 obtain ⟨v6,v7,h1,hF⟩:=AbX hF;refine AbA (AbV k _ _ _ _ _ h1) (by simp) [0] [] [0] rfl (.cons (.same (by simp)) (.cons (.same (by simp)) .nil)) (by simp) (by decide) (by simp) (by simp) (.inl rfl) (by simp) (by simp) ?_;refine TL trivial g r [] [(3,AV.ptr 2 0)] [0] [(0,.cells [Lz v0,Iz v7]),(2,.cells [Iz (IntKind.wrap .i64 (2+v6)),AV.lst true true (List.map AaA.av ([] : List AaA)),AV.lst true true (List.map (AV.int .i64) ([] : List Int))])] 3 ?_;refine AW.midF (α:=Int) (fun v8=>AaX.J1 k v0 v7 v8=some (v2,v3,v4,v5)) (fun v8=>[(0,AV.ptr 0 0),(2,AV.ptr 1 0),(3,AV.ptr 2 0)]) (fun v8=>[(0,.cells [Lz v0,Iz v7]),(1,AcB ),(2,.cells [Iz v8,AV.lst true true (List.map AaA.av ([] : List AaA)),AV.lst true true (List.map (AV.int .i64) ([] : List Int))])]) 3 (fun K210 hK210=>?_) ?_
 ·refine SW trivial [] [none,none,none,none,none,none] [] [(16,AV.bool ((v0.length : Int)==0))] [] [] 3 ?_;by_cases h12 : (v0.length : Int)=0
  ·replace hF:=AaZ h12 hF;have h12q : (v0.length : Int)=0:=h12;have h12_:=Abf h12q;have h12__:=Abe h12q;have F1:=A3 h12_ h12__ h12q;refine CT (by simp [F1] <;> omega) ?_;refine RG [] [none,none] fun _ _ g r=>?_;try simp [F1]
   and_intros <;> first | exact GK g | apply r | omega | (simp [maxLen,F1] <;> omega)
   refine hK210 _ _ _ ?_;exact JN (4) hF (by simp [F1]) (by simp [F1])
  ·replace hF:=Aaa h12 hF;have h12_:=AbY h12;have h12__:=Abc h12;have F2:=A3 h12 h12_ h12__;refine CF (by simp [F2] <;> omega) ?_;refine AW.skip ?_;refine hK210 _ _ _ ?_;exact JN (IntKind.wrap .i64 (2+v6)) hF (by simp [F2]) (by simp [F2])
 ·rintro v8 hF
  try dsimp only at hF
  unfold AaX.J1 at hF;refine AW.midF (α:=(Int×(List Int))) (fun (v9,v10)=>AaX.J2 k v0 v8 v9 v10=some (v2,v3,v4,v5)) (fun (v9,v10)=>[(0,AV.ptr 0 0),(2,AV.ptr 1 0),(3,AV.ptr 2 0)]) (fun (v9,v10)=>[(0,.cells [Lz v0,Iz v9]),(1,AcB ),(2,.cells [Iz v8,AV.lst true true (List.map AaA.av ([] : List AaA)),AV.slc 3 0 1 v10.length false]),(3,Gi v10)]) 4 (fun K207 hK207=>?_) ?_
  ·refine SR [] [none,none] fun _ _ g r=>?_;try simp
   and_intros
   try any_goals first | omega | (simp [maxLen] <;> omega)
   obtain ⟨v32,v33,h9,hF⟩:=AbX hF;refine AbA (Ag0 k _ _ _ _ _ h9) (by simp) [0] [] [0] rfl (.cons (.same (by simp)) (.cons (.same (by simp)) .nil)) (by simp) (by decide) (by simp) (by simp) (.inl rfl) (by simp) (by simp) ?_;refine TL trivial g r [] [(19,AV.bool v32)] [0] [(0,.cells [Lz v0,Iz v33])] 3 ?_;by_cases h10 : v32=true
   ·replace hF:=AaZ h10 hF;have h10_:=h10;try simp at h10_
    refine CT (by simp [h10,h10_] <;> omega) ?_;refine RG [24] [none,none,none,none,none,none,none] fun _ _ g r=>?_;try simp [h10,h10_]
    and_intros
    try any_goals first | omega | (simp [h10,h10_,maxLen] <;> omega)
    obtain ⟨v34,v35,h11,hF⟩:=AbX hF;refine AbA (AbV k _ _ _ _ _ h11) (by simp) [0] [] [0] rfl (.cons (.same (by simp [h10,h10_])) (.cons (.same (by simp [h10,h10_])) .nil)) (by simp [h10,h10_]) (by decide) (by simp) (by simp) (.inl rfl) (by simp) (by simp) ?_;try simp [h10,h10_]
    and_intros <;> first | exact GK g | apply r | omega | (simp [h10,h10_,maxLen] <;> omega)
    refine hK207 _ _ _ ?_;refine Can.weak [(0,AV.ptr 0 0),(2,AV.ptr 1 0),(3,AV.ptr 2 0)] [(0,.cells [Lz v0,Iz v35]),(1,AcB ),(2,.cells [Iz v8,AV.lst true true (List.map AaA.av ([] : List AaA)),AV.slc 3 0 1 (([v34] : List Int).length) true]),(3,Ci ([v34] : List Int))] 4 (by simp [h10,h10_]) (by simp [h10,h10_]) (by simp) ?_;refine Can.flg [] [(2,.cells [Iz v8,AV.lst true true (List.map AaA.av ([] : List AaA)),AV.slc 3 0 1 (([v34] : List Int).length) false]),(3,Gi ([v34] : List Int))] trivial ⟨⟨Aau.cells [Iz v8,AV.lst true true (List.map AaA.av ([] : List AaA)),AV.slc 3 0 1 (([v34] : List Int).length) true],by simp [h10,h10_],(.mk (.cons (.same _) (.cons (.same _) (.cons .slc .nil))))⟩,⟨Ci ([v34] : List Int),by simp [h10,h10_],(.gr (by simp [h10,h10_]))⟩,trivial⟩ (by simp) ?_;exact JN ((v35,([v34] : List Int))) hF (by simp [h10,h10_]) (by simp [h10,h10_])
   ·replace hF:=Aaa h10 hF;have h10_:=h10;try simp at h10_
    refine CF (by simp [h10,h10_] <;> omega) ?_;refine AW.skip ?_;refine hK207 _ _ _ ?_;refine Can.ownC 2 2 1 true (cs:=[Iz v8,AV.lst true true (List.map AaA.av ([] : List AaA)),AV.lst true true (List.map (AV.int .i64) ([] : List Int))]) (by simp [h10,h10_]) (by simp) ?_;exact JN ((v33,([] : List Int))) hF (by simp [h10,h10_]) (by simp [h10,h10_])
  ·rintro ⟨v9,v10⟩ hF
   try dsimp only at hF
   unfold AaX.J2 at hF;refine AW.seq fun K159 hK159=>?_;refine SR [] [none,none,none] fun _ _ g r=>?_;try simp
   and_intros
   try any_goals first | omega | (simp [maxLen] <;> omega)
   obtain ⟨v11,v12,h2,hF⟩:=AbX hF;refine AbA (AbV k _ _ _ _ _ h2) (by simp) [0] [] [0] rfl (.cons (.same (by simp)) (.cons (.same (by simp)) .nil)) (by simp) (by decide) (by simp) (by simp) (.inl rfl) (by simp) (by simp) ?_;refine TL trivial g r [] [(4,Iz v11)] [0] [(0,.cells [Lz v0,Iz v12])] 4 ?_;refine AW.block ?_;refine AW.ownC 1 1 3 true (cs:=[Iz 0,AV.lst true true (List.map AaA.av ([] : List AaA)),AV.lst true true (List.map (AV.int .i64) ([] : List Int))]) (by simp) (by simp) ?_;refine AW.ownC 1 2 1 true (cs:=[Iz 0,AV.slc 4 0 3 (([] : List AaA).length) false,AV.lst true true (List.map (AV.int .i64) ([] : List Int))]) (by simp) (by simp) ?_;refine AW.ownC 2 1 3 true (cs:=[Iz v8,AV.lst true true (List.map AaA.av ([] : List AaA)),AV.slc 3 0 1 v10.length false]) (by simp) (by simp) ?_;refine AW.rnm (m:=1) h0 [(0,0),(1,1),(2,4),(3,5),(4,2),(5,6),(6,3)] [(0,AV.ptr 0 0),(2,AV.ptr 1 0),(3,AV.ptr 4 0),(4,Iz v11)] [(0,.cells [Lz v0,Iz v12]),(1,Abp ),(2,.grow (AaM (List.map AaA.av ([] : List AaA)))),(3,Gi ([] : List Int)),(4,.cells [Iz v8,AV.slc 5 0 3 (([] : List AaA).length) false,AV.slc 6 0 1 v10.length false]),(5,.grow (AaM (List.map AaA.av ([] : List AaA)))),(6,Gi v10)] 7 (by decide) (by decide) (by decide) rfl (by simp) (by simp) ?_;refine AW.loopF (α:=(Int×Int×Int×(List AaA)×(List Int))) (fun n (v13,v14,v15,v16,v17)=>AaX.L3 k v0 n v13 v14 v15 v16 v17=some (v2,v3,v4,v5)) (fun (v13,v14,v15,v16,v17)=>[(0,AV.ptr 0 0),(2,AV.ptr 1 0),(3,AV.ptr 4 0),(4,Iz v13)]) (fun (v13,v14,v15,v16,v17)=>[(0,.cells [Lz v0,Iz v14]),(1,Abp ),(2,.grow (AaM (List.map AaA.av ([] : List AaA)))),(3,Gi ([] : List Int)),(4,.cells [Iz v15,AV.slc 5 0 3 v16.length false,AV.slc 6 0 1 v17.length false]),(5,.grow (AaM (List.map AaA.av v16))),(6,Gi v17)]) 7 k ((v11,v12,v8,([] : List AaA),v10)) hF (by simp) (by simp) (by simp) ?_;rintro (_|n3) ⟨v13,v14,v15,v16,v17⟩ hF K194 hK194
   ·try dsimp only at hF
    rw [AaX.L3] at hF; cases hF
   try dsimp only at hF
   rw [AaX.L3] at hF;refine AW.seq fun K196 hK196=>?_;refine SW trivial [] [none,none] [] [(29,AV.bool (decide (0<v13)))] [] [] 7 ?_;by_cases h3 : 0<v13
   ·replace hF:=AaZ h3 hF;have h3_:=h3;try simp at h3_
    refine CT (by simp [h3,h3_] <;> omega) ?_;refine AW.skip ?_;refine hK196 _ _ _ ?_;refine AW.midF (α:=(Int×Int×(List AaA)×(List Int))) (fun (v18,v19,v20,v21)=>AaX.J4 k v13 (fun v13_ v14_ v15_ v16_ v17_=>AaX.L3 k v0 n3 v13_ v14_ v15_ v16_ v17_) v18 v19 v20 v21=some (v2,v3,v4,v5)) (fun (v18,v19,v20,v21)=>[(0,AV.ptr 0 0),(2,AV.ptr 1 0),(3,AV.ptr 4 0),(4,Iz v13)]) (fun (v18,v19,v20,v21)=>[(0,.cells [Lz v0,Iz v18]),(1,Abp ),(2,.grow (AaM (List.map AaA.av ([] : List AaA)))),(3,Gi ([] : List Int)),(4,.cells [Iz v19,AV.slc 5 0 3 v20.length false,AV.slc 6 0 1 v21.length false]),(5,.grow (AaM (List.map AaA.av v20))),(6,Gi v21)]) 7 (fun K202 hK202=>?_) ?_
    ·refine AW.block ?_;refine SR [] [none,none,none,none,none,none,none,none,none,none,none,none,none,none,none,none,none,none,none,none] fun _ _ g r=>?_;try simp [h3,h3_]
     and_intros
     try any_goals first | omega | (simp [h3,h3_,maxLen] <;> omega)
     obtain ⟨v22,v23,h4,hF⟩:=AbX hF;refine AbA (AbV k _ _ _ _ _ h4) (by simp) [0] [] [0] rfl (.cons (.same (by simp [h3,h3_])) (.cons (.same (by simp [h3,h3_])) .nil)) (by simp [h3,h3_]) (by decide) (by simp) (by simp) (.inl rfl) (by simp) (by simp) ?_;try simp [h3,h3_]
     and_intros
     try any_goals first | omega | (simp [h3,h3_,maxLen] <;> omega)
     obtain ⟨v24,v25,h5,hF⟩:=AbX hF;refine AbA (AbV k _ _ _ _ _ h5) (by simp) [0] [] [0] rfl (.cons (.same (by simp [h3,h3_])) (.cons (.same (by simp [h3,h3_])) .nil)) (by simp [h3,h3_]) (by decide) (by simp) (by simp) (.inl rfl) (by simp) (by simp) ?_;try simp [h3,h3_]
     and_intros
     try any_goals first | omega | (simp [h3,h3_,maxLen] <;> omega)
     obtain ⟨v26,v27,h6,hF⟩:=AbX hF;refine AbA (AbV k _ _ _ _ _ h6) (by simp) [0] [] [0] rfl (.cons (.same (by simp [h3,h3_])) (.cons (.same (by simp [h3,h3_])) .nil)) (by simp [h3,h3_]) (by decide) (by simp) (by simp) (.inl rfl) (by simp) (by simp) ?_;try simp [h3,h3_]
     and_intros
     try any_goals first | omega | (simp [h3,h3_,maxLen] <;> omega)
     obtain ⟨v28,v29,v30,v31,h7,hF⟩:=Ajd hF;refine AbA (AhU k _ _ _ _ _ _ _ _ _ _ h7) (by simp) [] [5,6] [] rfl (.cons (.agg (.cons (.same (by simp [h3,h3_])) (.cons (Coe.l (o := .grow (AaM (List.map AaA.av v16))) (by simp [h3,h3_]) rfl (by simp [h3,h3_]) (by simp [Ac5]) (by simp [h3,h3_]) (by simp [h3,h3_])) (.cons (Coe.l (o:=Gi v17) (by simp [h3,h3_]) rfl (by simp [h3,h3_]) (by simp [Ac5]) (by simp [h3,h3_]) (by simp [h3,h3_])) .nil)))) (.cons (.same (by simp [h3,h3_])) .nil)) (by simp [h3,h3_]) (by decide) (by simp) (by simp) (.inr ⟨by simp,by simp⟩) (by simp) (by simp) ?_;refine TL (A2 h3 h3_) g r [] [(5,AV.ptr 9 0),(6,Iz v31)] [0] [(0,.cells [Lz v0,Iz v27]),(7,.grow (AaM (List.map AaA.av v29))),(8,Gi v30),(9,.cells [Iz v28,AV.slc 7 0 3 v29.length false,AV.slc 8 0 1 v30.length false])] 10 ?_;refine SW (A2 h3 h3_) [] [none,none] [6] [(50,AV.bool (v31==0))] [] [] 10 ?_;by_cases h8 : v31=0
     ·replace hF:=AaZ h8 hF;have h8q : v31=0:=h8;have h8_:=Abf h8q;have h8__:=Abe h8q;have F3:=A5 h3 h3_ h8_ h8__ h8q;refine CT (by simp [F3] <;> omega) ?_;refine RG [] [none,none] fun _ _ g r=>?_;try simp [F3]
      and_intros <;> first | exact GK g | apply r | omega | (simp [maxLen,F3] <;> omega)
      refine hK202 _ _ _ ?_;refine Can.weak [(0,AV.ptr 0 0),(2,AV.ptr 1 0),(3,AV.ptr 4 0),(4,Iz v13)] [(0,.cells [Lz v0,Iz v27]),(1,Abp ),(2,.grow (AaM (List.map AaA.av ([] : List AaA)))),(3,Gi ([] : List Int)),(4,.cells [Iz v28,AV.slc 7 0 3 v29.length false,AV.slc 8 0 1 v30.length false]),(7,.grow (AaM (List.map AaA.av v29))),(8,Gi v30)] 10 (by simp [F3]) (by simp [F3]) (by simp) ?_;refine Can.ren (m:=1) h0 [(0,0),(1,1),(2,2),(3,3),(4,4),(5,7),(6,8)] [(0,AV.ptr 0 0),(2,AV.ptr 1 0),(3,AV.ptr 4 0),(4,Iz v13)] [(0,.cells [Lz v0,Iz v27]),(1,Abp ),(2,.grow (AaM (List.map AaA.av ([] : List AaA)))),(3,Gi ([] : List Int)),(4,.cells [Iz v28,AV.slc 5 0 3 v29.length false,AV.slc 6 0 1 v30.length false]),(5,.grow (AaM (List.map AaA.av v29))),(6,Gi v30)] 7 (by decide) (by decide) (by decide) rfl (by simp [F3]) (by simp [F3]) ?_;exact JN ((v27,v28,v29,v30)) hF (by simp [F3]) (by simp [F3])
     ·replace hF:=Aaa h8 hF;have h8_:=AbY h8;have h8__:=Abc h8;have F4:=A5 h3 h3_ h8 h8_ h8__;refine CF (by simp [F4] <;> omega) ?_;refine AW.skip ?_;refine hK202 _ _ _ ?_;refine Can.ren (m:=1) h0 [(0,0),(1,1),(2,2),(3,3),(4,4),(5,5),(6,6)] [(0,AV.ptr 0 0),(2,AV.ptr 1 0),(3,AV.ptr 4 0),(4,Iz v13)] [(0,.cells [Lz v0,Iz v27]),(1,Abp ),(2,.grow (AaM (List.map AaA.av ([] : List AaA)))),(3,Gi ([] : List Int)),(4,.cells [Iz v15,AV.slc 5 0 3 v16.length false,AV.slc 6 0 1 v17.length false]),(5,.grow (AaM (List.map AaA.av v16))),(6,Gi v17)] 7 (by decide) (by decide) (by decide) rfl (by simp [F4]) (by simp [F4]) ?_;exact JN ((v27,v15,v16,v17)) hF (by simp [F4]) (by simp [F4])
    ·rintro ⟨v18,v19,v20,v21⟩ hF
     try dsimp only at hF
     unfold AaX.J4 at hF;refine RG [] [none,none,none] fun _ _ g r=>?_;try simp [h3,h3_]
     and_intros <;> first | exact GK g | apply r | omega | (simp [h3,h3_,maxLen] <;> omega)
     refine hK194 _ _ _ ?_;exact NX (k':=n3) ((IntKind.wrap .i64 (v13-1),v18,v19,v20,v21)) hF (by simp [h3,h3_]) (by simp [h3,h3_])
   ·replace hF:=Aaa h3 hF;have h3_:=h3;try simp at h3_
    refine CF (by simp [h3,h3_] <;> omega) ?_;refine AW.exit ?_;try simp
    refine hK159 _ _ _ ?_;refine SW (A2 h3 h3_) [] [none,none] [0,3,4] [] [1,2,3,4] [(1,.cells [Iz v15,AV.slc 5 0 3 v16.length false,AV.slc 6 0 1 v17.length false])] 7 ?_;refine AW.rnm (m:=1) h0 [(0,0),(1,5),(2,6),(3,1)] [(2,AV.ptr 3 0)] [(0,.cells [Lz v0,Iz v14]),(1,.grow (AaM (List.map AaA.av v16))),(2,Gi v17),(3,.cells [Iz v15,AV.slc 1 0 3 v16.length false,AV.slc 2 0 1 v17.length false])] 4 (by decide) (by decide) (by decide) rfl (by simp [h3,h3_]) (by simp [h3,h3_]) ?_;simp only [Option.some.injEq,Prod.mk.injEq] at hF;obtain ⟨e0,e1,e2,e3⟩:=hF;subst e0 e1 e2 e3;refine AW.ret (hQ _ _ _ ?_ (AaJ ?_)).1
    ·simp [Try.f12,h3,h3_]
    ·simp [h3,h3_]
theorem AfN (k : Nat) (v0 : Int) (v1 : (List AaA)) (v2 : (List Int)) (v3 : Int) (v4 : Int) (v5 : Int) (v6 : Bool) (hF : Acu k v0 v1 v2 v3 v4 v5=some v6) :
 AbF Try.prog 55 [AV.agg [AV.int .i64 v0,Q0 v1,AV.lst false false (List.map (AV.int .i64) v2)],AV.int .i64 v3,AV.int .i64 v4,AV.int .i64 v5] [] (AV.bool v6) []:=by
 unfold Acu at hF;refine EN Try.func55 ?_;intro c0 w0 Q h0 hQ
 refine WK [(0,AV.agg [Iz v0,Q0 v1,Lz v2]),(1,Iz v3),(2,Iz v4),(3,Iz v5)] [] 0 (by simp) (by simp) ?_;refine SW trivial [] [none,none] [0] [(4,AV.ptr 0 0)] [] [(0,.cells [Iz v0,Q0 v1,Lz v2])] 1 ?_;refine SR [] [none,none,none,some (11,true),some (11,true),none,none,some (15,true),some (15,true),none,none,some (19,true),some (19,true),some (19,true),some (19,true),none,none,some (25,true),some (25,true),none,none,some (29,true),some (29,true),some (29,true),some (29,true),none,none,some (35,true),some (35,true),some (35,true),none,none] fun _ _ g r=>?_;by_cases h1 : 1≤v3
 ·replace hF:=AaZ h1 hF;have h1_:=h1;try simp at h1_
  by_cases h2 : v3≤3
  ·replace hF:=AaZ h2 hF;have h2_:=h2;try simp at h2_
   by_cases h3 : 0≤v4
   ·replace hF:=AaZ h3 hF;have h3_:=h3;try simp at h3_
    by_cases h4 : v4<v0
    ·replace hF:=AaZ h4 hF;have h4_:=h4;try simp at h4_
     by_cases h5 : 0≤v5
     ·replace hF:=AaZ h5 hF;have h5_:=h5;try simp at h5_
      by_cases h6 : v5<v0
      ·replace hF:=AaZ h6 hF;have h6_:=h6;try simp at h6_
       have F1:=A9 h1 h1_ h2 h2_ h3 h3_ h4 h4_ (A4 h5 h5_ h6 h6_);refine TL F1 g r [1,2,3,4] [(8,AV.bool (v4 !=v5))] [0] [] 1 ?_;simp only [Option.some.injEq] at hF;subst hF;refine AW.ret (hQ _ _ _ ?_ (AaJ ?_)).1
       ·simp [Try.f55,F1]
       ·simp [F1]
      ·replace hF:=Aaa h6 hF;have h6_:=h6;try simp at h6_
       have F2:=A9 h1 h1_ h2 h2_ h3 h3_ h4 h4_ (A4 h5 h5_ h6 h6_);refine TL F2 g r [1,2,3,4] [(8,AV.bool false)] [0] [] 1 ?_;simp only [Option.some.injEq] at hF;subst hF;refine AW.ret (hQ _ _ _ ?_ (AaJ ?_)).1
       ·simp [Try.f55,F2]
       ·simp [F2]
     ·replace hF:=Aaa h5 hF;have h5_:=h5;try simp at h5_
      have F3:=A9 h1 h1_ h2 h2_ h3 h3_ h4 h4_ (A2 h5 h5_);refine TL F3 g r [1,2,3,4] [(8,AV.bool false)] [0] [] 1 ?_;simp only [Option.some.injEq] at hF;subst hF;refine AW.ret (hQ _ _ _ ?_ (AaJ ?_)).1
      ·simp [Try.f55,F3]
      ·simp [F3]
    ·replace hF:=Aaa h4 hF;have h4_:=h4;try simp at h4_
     have F4:=A8 h1 h1_ h2 h2_ h3 h3_ h4 h4_;refine TL F4 g r [1,2,3,4] [(8,AV.bool false)] [0] [] 1 ?_;simp only [Option.some.injEq] at hF;subst hF;refine AW.ret (hQ _ _ _ ?_ (AaJ ?_)).1
     ·simp [Try.f55,F4]
     ·simp [F4]
   ·replace hF:=Aaa h3 hF;have h3_:=h3;try simp at h3_
    have F5:=A6 h1 h1_ h2 h2_ h3 h3_;refine TL F5 g r [1,2,3,4] [(8,AV.bool false)] [0] [] 1 ?_;simp only [Option.some.injEq] at hF;subst hF;refine AW.ret (hQ _ _ _ ?_ (AaJ ?_)).1
    ·simp [Try.f55,F5]
    ·simp [F5]
  ·replace hF:=Aaa h2 hF;have h2_:=h2;try simp at h2_
   have F6:=A4 h1 h1_ h2 h2_;refine TL F6 g r [1,2,3,4] [(8,AV.bool false)] [0] [] 1 ?_;simp only [Option.some.injEq] at hF;subst hF;refine AW.ret (hQ _ _ _ ?_ (AaJ ?_)).1
   ·simp [Try.f55,F6]
   ·simp [F6]
 ·replace hF:=Aaa h1 hF;have h1_:=h1;try simp at h1_
  refine TL (A2 h1 h1_) g r [1,2,3,4] [(8,AV.bool false)] [0] [] 1 ?_;simp only [Option.some.injEq] at hF;subst hF;refine AW.ret (hQ _ _ _ ?_ (AaJ ?_)).1
  ·simp [Try.f55,h1,h1_]
  ·simp [h1,h1_]
abbrev Adg  : Aau := .cells [Iz 0,AV.slc 2 0 3 (([] : List AaA).length) false,AV.lst true true (List.map (AV.int .i64) ([] : List Int))]
abbrev AfT  : Aau := .cells [Iz 0,AV.lst true true (List.map AaA.av ([] : List AaA)),AV.lst true true (List.map (AV.int .i64) ([] : List Int))]
theorem Afs (k : Nat) (v0 : Int) (v1 : (List AaA)) (v2 : (List Int)) (v3 : Int) (v4 : Int) (v5 : (List AaA)) (v6 : (List Int)) (hF : AbB k v0 v1 v2 v3=some (v4,v5,v6)) :
 AbF Try.prog 49 [AV.agg [AV.int .i64 v0,Q0 v1,AV.lst false false (List.map (AV.int .i64) v2)],AV.int .i64 v3] [] (AV.agg [AV.int .i64 v4,AV.slc 0 0 3 v5.length false,AV.lst false false (List.map (AV.int .i64) v6)]) [some (.grow (AaM (List.map AaA.av v5)))]:=by
 unfold AbB at hF;refine EN Try.func49 ?_;intro c0 w0 Q h0 hQ
 refine WK [(0,AV.agg [Iz v0,Q0 v1,Lz v2]),(1,Iz v3)] [] 0 (by simp) (by simp) ?_;refine SW trivial [] [none,none] [0] [(2,AV.ptr 0 0),(4,AV.ptr 1 0)] [] [(0,.cells [Iz v0,Q0 v1,Lz v2]),(1,AfT )] 2 ?_;obtain ⟨v7,v8,v9,h1,hF⟩:=Adw hF;refine CL trivial [] [none,none,none,none] (Ad3 k _ _ _ _ _ _ h1) [] [(5,AV.ptr 4 0)] [] [(2,.grow (AaM (List.map AaA.av v8))),(3,Gi v9),(4,.cells [Iz v7,AV.slc 2 0 3 v8.length false,AV.slc 3 0 1 v9.length false])] 5 ?_;refine AW.frz 3 (o:=Gi v9) (by simp) rfl [] [(4,.cells [Iz v7,AV.slc 2 0 3 v8.length false,Lz v9])] trivial ⟨⟨by simp,Aau.cells [Iz v7,AV.slc 2 0 3 v8.length false,AV.slc 3 0 1 v9.length false],by simp,(.mk (.cons (.same _) (.cons (.same _) (.cons (.l (by simp) (by simp) (by simp) (by simp)) .nil))))⟩,trivial⟩ ?_;refine WK [(1,Iz v3),(2,AV.ptr 0 0),(4,AV.ptr 1 0),(5,AV.ptr 4 0)] [(0,.cells [Iz v0,Q0 v1,Lz v2]),(1,AfT ),(2,.grow (AaM (List.map AaA.av v8))),(4,.cells [Iz v7,AV.slc 2 0 3 v8.length false,Lz v9])] 5 (by simp) (by simp) ?_;refine SW trivial [] [none,none] [] [] [2,4] [(4,.cells [Iz v7,AV.lst true true (List.map AaA.av ([] : List AaA)),Lz v9])] 5 ?_;refine AW.seq fun K123 hK123=>?_;refine SW trivial [] [none] [] [(6,Iz 0)] [] [] 5 ?_;refine AW.block ?_;refine AW.ownC 1 1 3 true (cs:=[Iz 0,AV.lst true true (List.map AaA.av ([] : List AaA)),AV.lst true true (List.map (AV.int .i64) ([] : List Int))]) (by simp) (by simp) ?_;refine AW.ownC 4 1 3 true (cs:=[Iz v7,AV.lst true true (List.map AaA.av ([] : List AaA)),Lz v9]) (by simp) (by simp) ?_;refine RM h0 [(0,0),(1,1),(2,5),(3,4),(4,6)] [(1,Iz v3),(2,AV.ptr 0 0),(4,AV.ptr 1 0),(5,AV.ptr 3 0),(6,Iz 0)] [(0,.cells [Iz v0,Q0 v1,Lz v2]),(1,Adg ),(2,.grow (AaM (List.map AaA.av ([] : List AaA)))),(3,.cells [Iz v7,AV.slc 4 0 3 (([] : List AaA).length) false,Lz v9]),(4,.grow (AaM (List.map AaA.av ([] : List AaA))))] 5 (by simp) (by simp) ?_;refine AW.loopF (α:=(Int×(List AaA))) (fun n (v10,v11)=>AbB.L1 k v1 v3 v7 v9 n v10 v11=some (v4,v5,v6)) (fun (v10,v11)=>[(1,Iz v3),(2,AV.ptr 0 0),(4,AV.ptr 1 0),(5,AV.ptr 3 0),(6,Iz v10)]) (fun (v10,v11)=>[(0,.cells [Iz v0,Q0 v1,Lz v2]),(1,Adg ),(2,.grow (AaM (List.map AaA.av ([] : List AaA)))),(3,.cells [Iz v7,AV.slc 4 0 3 v11.length false,Lz v9]),(4,.grow (AaM (List.map AaA.av v11)))]) 5 k ((0,([] : List AaA))) hF (by simp) (by simp) (by simp) ?_;rintro (_|n1) ⟨v10,v11⟩ hF K152 hK152
 ·try dsimp only at hF
  rw [AbB.L1] at hF; cases hF
 try dsimp only at hF
 rw [AbB.L1] at hF;refine AW.seq fun K154 hK154=>?_;refine SW trivial [] [none,none,none,none,none] [] [(14,AV.bool (decide (v10<(v1.length : Int))))] [] [] 5 ?_;by_cases h2 : v10<(v1.length : Int)
 ·replace hF:=AaZ h2 hF;have h2_:=h2;try simp at h2_
  refine CT (by simp [h2,h2_] <;> omega) ?_;refine AW.skip ?_;refine hK154 _ _ _ ?_;refine AW.midF (α:=(List AaA)) (fun v12=>AbB.J2 k v10 (fun v10_ v11_=>AbB.L1 k v1 v3 v7 v9 n1 v10_ v11_) v12=some (v4,v5,v6)) (fun v12=>[(1,Iz v3),(2,AV.ptr 0 0),(4,AV.ptr 1 0),(5,AV.ptr 3 0),(6,Iz v10)]) (fun v12=>[(0,.cells [Iz v0,Q0 v1,Lz v2]),(1,Adg ),(2,.grow (AaM (List.map AaA.av ([] : List AaA)))),(3,.cells [Iz v7,AV.slc 4 0 3 v12.length false,Lz v9]),(4,.grow (AaM (List.map AaA.av v12)))]) 5 (fun K159 hK159=>?_) ?_
  ·refine AW.block ?_;refine SR [] [none,none,none,none,none,none,none,none] fun _ _ g r=>?_;obtain ⟨v13,h3,h4,h5,hF⟩:=Aad hF;have h5_:=Aas h5;try simp at h5_
   have h4_:=h4;try simp at h4_
   have F1:=A7 h2 h2_ h3 h4 h5 h5_ h4_;refine TL F1 g r [] [(24,AV.bool (decide (v3≤v13.Level)))] [] [] 5 ?_;by_cases h6 : v3≤v13.Level
   ·replace hF:=AaZ h6 hF;have h6_:=h6;try simp at h6_
    have F2:=A3 F1 h6 h6_;refine CT (by simp [F2] <;> omega) ?_;refine RG [] [none,none,none,none,none,none,none,none,none,none,none] fun _ _ g r=>?_;obtain ⟨h7,hF⟩:=AaR hF;have h7_:=h7;try simp at h7_
    have F3:=A2 F2 h7;try simp [F3]
    and_intros <;> first | exact GK g | apply r | omega | (simp [maxLen,F3] <;> omega)
    refine hK159 _ _ _ ?_;refine RN h0 [(0,0),(1,1),(2,2),(3,3),(4,5)] [(1,Iz v3),(2,AV.ptr 0 0),(4,AV.ptr 1 0),(5,AV.ptr 3 0),(6,Iz v10)] [(0,.cells [Iz v0,Q0 v1,Lz v2]),(1,Adg ),(2,.grow (AaM (List.map AaA.av ([] : List AaA)))),(3,.cells [Iz v7,AV.slc 4 0 3 ((v11++([v13] : List AaA)).length) false,Lz v9]),(4,.grow (AaM (List.map AaA.av (v11++([v13] : List AaA)))))] 5 (by simp [F3]) (by simp [F3] <;> omega) ?_;exact JN (v11++([v13] : List AaA)) hF (by simp [F3]) (by simp [F3])
   ·replace hF:=Aaa h6 hF;have h6_:=h6;try simp at h6_
    have F4:=A3 F1 h6 h6_;refine CF (by simp [F4] <;> omega) ?_;refine AW.skip ?_;refine hK159 _ _ _ ?_;exact JN (v11) hF (by simp [F4]) (by simp [F4])
  ·rintro v12 hF
   try dsimp only at hF
   unfold AbB.J2 at hF;refine RG [] [none,none,none] fun _ _ g r=>?_;try simp [h2,h2_]
   and_intros <;> first | exact GK g | apply r | omega | (simp [h2,h2_,maxLen] <;> omega)
   refine hK152 _ _ _ ?_;exact NX (k':=n1) ((IntKind.wrap .i64 (v10+1),v12)) hF (by simp [h2,h2_]) (by simp [h2,h2_])
 ·replace hF:=Aaa h2 hF;have h2_:=h2;try simp at h2_
  refine CF (by simp [h2,h2_] <;> omega) ?_;refine AW.exit ?_;try simp
  refine hK123 _ _ _ ?_;refine SQ [] [none,none] fun _ _ g r=>?_;try simp [h2,h2_]
  and_intros <;> first | exact GK g | apply r | omega | (simp [h2,h2_,maxLen] <;> omega)
  refine RM h0 [(0,4),(1,1)] [(4,AV.ptr 1 0)] [(0,.grow (AaM (List.map AaA.av v11))),(1,.cells [Iz v7,AV.slc 0 0 3 v11.length false,Lz v9])] 2 (by simp [h2,h2_]) (by simp [h2,h2_]) ?_;simp only [Option.some.injEq,Prod.mk.injEq] at hF;obtain ⟨e0,e1,e2⟩:=hF;subst e0 e1 e2;refine AW.ret (hQ _ _ _ ?_ (AaJ ?_)).1
  ·simp [Try.f49,h2,h2_]
  ·simp [h2,h2_]
theorem Ajn (k : Nat) (v0 : Int) (v1 : (List AaA)) (v2 : (List Int)) (v3 : (List Int)) (v4 : (List Int)) (hF : Aan k v0 v1 v2 v3=some v4) :
 AbF Try.prog 48 [AV.agg [AV.int .i64 v0,Q0 v1,AV.lst false false (List.map (AV.int .i64) v2)],AV.lst false false (List.map (AV.int .i64) v3)] [] (AV.slc 0 0 1 v4.length false) [some (Gi v4)]:=by
 unfold Aan at hF;refine EN Try.func48 ?_;intro c0 w0 Q h0 hQ
 refine WK [(0,AV.agg [Iz v0,Q0 v1,Lz v2]),(1,Lz v3)] [] 0 (by simp) (by simp) ?_;refine SW trivial [] [none,none] [0] [(2,AV.ptr 0 0)] [] [(0,.cells [Iz v0,Q0 v1,Lz v2])] 1 ?_;refine SW trivial [] [none] [] [(5,AV.lst true true (List.map (AV.int .i64) ([] : List Int)))] [] [] 1 ?_;refine AW.seq fun K926 hK926=>?_;refine SW trivial [] [none] [] [(6,Iz 0)] [] [] 1 ?_;refine AW.block ?_;refine AW.own' 5 1 true (by simp) (by decide) ?_;refine AW.loopF (α:=(Int×(List Int))) (fun n (v5,v6)=>Aan.L1 k v0 v1 v2 v3 n v5 v6=some v4) (fun (v5,v6)=>[(1,Lz v3),(2,AV.ptr 0 0),(5,AV.slc 1 0 1 v6.length false),(6,Iz v5)]) (fun (v5,v6)=>[(0,.cells [Iz v0,Q0 v1,Lz v2]),(1,Gi v6)]) 2 k ((0,([] : List Int))) hF (by simp) (by simp) (by simp) ?_;rintro (_|n1) ⟨v5,v6⟩ hF K961 hK961
 ·try dsimp only at hF
  rw [Aan.L1] at hF; cases hF
 try dsimp only at hF
 rw [Aan.L1] at hF;refine AW.seq fun K963 hK963=>?_;refine SW trivial [] [none,none,none,none] [] [(13,AV.bool (decide (v5<v0)))] [] [] 2 ?_;by_cases h1 : v5<v0
 ·replace hF:=AaZ h1 hF;have h1_:=h1;try simp at h1_
  refine CT (by simp [h1,h1_] <;> omega) ?_;refine AW.skip ?_;refine hK963 _ _ _ ?_;refine AW.midF (α:=(List Int)) (fun v7=>Aan.J2 k v5 (fun v5_ v6_=>Aan.L1 k v0 v1 v2 v3 n1 v5_ v6_) v7=some v4) (fun v7=>[(1,Lz v3),(2,AV.ptr 0 0),(5,AV.slc 1 0 1 v7.length false),(6,Iz v5)]) (fun v7=>[(0,.cells [Iz v0,Q0 v1,Lz v2]),(1,Gi v7)]) 2 (fun K969 hK969=>?_) ?_
  ·refine AW.block ?_;refine SQ [] [none,none,none,none] fun _ _ g r=>?_;obtain ⟨h2,hF⟩:=AaR hF;have h2_:=h2;try simp at h2_
   have F1:=A3 h1 h1_ h2;try simp [F1]
   and_intros <;> first | exact GK g | apply r | omega | (simp [maxLen,F1] <;> omega)
   refine WK [(1,Lz v3),(2,AV.ptr 0 0),(5,AV.slc 2 0 1 ((v6++([-1] : List Int)).length) false),(6,Iz v5)] [(0,.cells [Iz v0,Q0 v1,Lz v2]),(2,Gi (v6++([-1] : List Int)))] 3 (by simp [F1] <;> omega) (by simp [F1]) ?_;refine SQ [] [none,none,none,none,some (22,true),some (22,true),some (22,true),some (22,true),some (22,true),none] fun _ _ g r=>?_;try simp [F1]
   and_intros
   try any_goals first | omega | (simp [maxLen,F1] <;> omega)
   obtain ⟨v8,h3,hF⟩:=AaN hF;refine AC (Abj k _ _ _ h3) (.cons (.same (by simp [F1])) (.cons (.same (by simp [F1])) .nil)) ?_;by_cases h4 : v8=true
   ·replace hF:=AaZ h4 hF;have h4_:=h4;try simp at h4_
    have F2:=A3 F1 h4 h4_;try simp [F2]
    and_intros
    try any_goals first | omega | (simp [maxLen,F2] <;> omega)
    obtain ⟨v9,h5,hF⟩:=AaN hF;refine AC (Abj k _ _ _ h5) (.cons (.same (by simp [F2])) (.cons (.same (by simp [F2])) .nil)) ?_;try simp [F2]
    and_intros <;> first | exact GK g | apply r | omega | (simp [maxLen,F2] <;> omega)
    refine WK [(1,Lz v3),(2,AV.ptr 0 0),(5,AV.slc 2 0 1 ((v6++([-1] : List Int)).length) false),(6,Iz v5),(28,AV.bool (!v9))] [(0,.cells [Iz v0,Q0 v1,Lz v2]),(2,Gi (v6++([-1] : List Int)))] 3 (by simp [F2] <;> omega) (by simp [F2]) ?_;by_cases h6 : (!v9)=true
    ·replace hF:=AaZ h6 hF;have h6_:=h6;try simp at h6_
     have F3:=A3 F2 h6 h6_;refine CT (by simp [F3] <;> omega) ?_;refine RG [] [none,none,none,none] fun _ _ g r=>?_;obtain ⟨⟨h7,h8⟩,hF⟩:=AaR hF;have h8_:=Aa3 h8;have h8s:=h8;try simp at h8s
     have F4:=A5 F3 h7 h8 h8_ h8s;try simp [F4]
     and_intros <;> first | exact GK g | apply r | omega | (simp [maxLen,F4] <;> omega)
     refine hK969 _ _ _ ?_;refine RN h0 [(0,0),(1,2)] [(1,Lz v3),(2,AV.ptr 0 0),(5,AV.slc 1 0 1 (((v6++([-1] : List Int)).set (v5).toNat 0).length) false),(6,Iz v5)] [(0,.cells [Iz v0,Q0 v1,Lz v2]),(1,Gi ((v6++([-1] : List Int)).set (v5).toNat 0))] 2 (by simp [F4] <;> omega) (by simp [F4]) ?_;exact JN ((v6++([-1] : List Int)).set (v5).toNat 0) hF (by simp [F4]) (by simp [F4])
    ·replace hF:=Aaa h6 hF;have h6_:=h6;try simp at h6_
     have F5:=A3 F2 h6 h6_;refine CF (by simp [F5] <;> omega) ?_;refine AW.skip ?_;refine hK969 _ _ _ ?_;refine RN h0 [(0,0),(1,2)] [(1,Lz v3),(2,AV.ptr 0 0),(5,AV.slc 1 0 1 ((v6++([-1] : List Int)).length) false),(6,Iz v5)] [(0,.cells [Iz v0,Q0 v1,Lz v2]),(1,Gi (v6++([-1] : List Int)))] 2 (by simp [F5]) (by simp [F5]) ?_;exact JN (v6++([-1] : List Int)) hF (by simp [F5]) (by simp [F5])
   ·replace hF:=Aaa h4 hF;have h4_:=h4;try simp at h4_
    have F6:=A3 F1 h4 h4_;try simp [F6]
    and_intros <;> first | exact GK g | apply r | omega | (simp [maxLen,F6] <;> omega)
    refine WK [(1,Lz v3),(2,AV.ptr 0 0),(5,AV.slc 2 0 1 ((v6++([-1] : List Int)).length) false),(6,Iz v5),(28,AV.bool false)] [(0,.cells [Iz v0,Q0 v1,Lz v2]),(2,Gi (v6++([-1] : List Int)))] 3 (by simp [F6] <;> omega) (by simp [F6]) ?_;refine CF (by simp [F6]) ?_;refine AW.skip ?_;refine hK969 _ _ _ ?_;refine RN h0 [(0,0),(1,2)] [(1,Lz v3),(2,AV.ptr 0 0),(5,AV.slc 1 0 1 ((v6++([-1] : List Int)).length) false),(6,Iz v5)] [(0,.cells [Iz v0,Q0 v1,Lz v2]),(1,Gi (v6++([-1] : List Int)))] 2 (by simp [F6]) (by simp [F6]) ?_;exact JN (v6++([-1] : List Int)) hF (by simp [F6]) (by simp [F6])
  ·rintro v7 hF
   try dsimp only at hF
   unfold Aan.J2 at hF;refine RG [] [none,none,none] fun _ _ g r=>?_;try simp [h1,h1_]
   and_intros <;> first | exact GK g | apply r | omega | (simp [h1,h1_,maxLen] <;> omega)
   refine hK961 _ _ _ ?_;exact NX (k':=n1) ((IntKind.wrap .i64 (v5+1),v7)) hF (by simp [h1,h1_]) (by simp [h1,h1_])
 ·replace hF:=Aaa h1 hF;have h1_:=h1;try simp at h1_
  refine CF (by simp [h1,h1_] <;> omega) ?_;refine AW.exit ?_;try simp
  refine hK926 _ _ _ ?_;refine AW.seq fun K1363 hK1363=>?_;refine SW (A2 h1 h1_) [] [none] [1,6] [(7,Iz 0)] [] [] 2 ?_;refine AW.block ?_;refine AW.loopF (α:=(Int×(List Int))) (fun n (v10,v11)=>Aan.L3 k v0 v1 n v10 v11=some v4) (fun (v10,v11)=>[(2,AV.ptr 0 0),(5,AV.slc 1 0 1 v11.length false),(7,Iz v10)]) (fun (v10,v11)=>[(0,.cells [Iz v0,Q0 v1,Lz v2]),(1,Gi v11)]) 2 k ((0,v6)) hF (by simp [h1,h1_]) (by simp [h1,h1_]) (by simp) ?_;rintro (_|n3) ⟨v10,v11⟩ hF K1656 hK1656
  ·try dsimp only at hF
   rw [Aan.L3] at hF; cases hF
  try dsimp only at hF
  rw [Aan.L3] at hF;refine AW.seq fun K1658 hK1658=>?_;refine SW (A2 h1 h1_) [] [none,none,none,none] [] [(35,AV.bool (decide (v10<v0)))] [] [] 2 ?_;by_cases h9 : v10<v0
  ·replace hF:=AaZ h9 hF;have h9_:=h9;try simp at h9_
   have F7:=A4 h1 h1_ h9 h9_;refine CT (by simp [F7] <;> omega) ?_;refine AW.skip ?_;refine hK1658 _ _ _ ?_;refine AW.seq fun K1706 hK1706=>?_;refine AW.block ?_;refine SW F7 [] [none] [] [(8,Iz 0)] [] [] 2 ?_;refine AW.block ?_;refine AW.loopF (α:=(Int×(List Int))) (fun n (v12,v13)=>Aan.L4 k v1 v10 (fun v10_ v11_=>Aan.L3 k v0 v1 n3 v10_ v11_) n v12 v13=some v4) (fun (v12,v13)=>[(2,AV.ptr 0 0),(5,AV.slc 1 0 1 v13.length false),(7,Iz v10),(8,Iz v12)]) (fun (v12,v13)=>[(0,.cells [Iz v0,Q0 v1,Lz v2]),(1,Gi v13)]) 2 k ((0,v11)) hF (by simp [F7]) (by simp [F7]) (by simp) ?_;rintro (_|n4) ⟨v12,v13⟩ hF K1741 hK1741
   ·try dsimp only at hF
    rw [Aan.L4] at hF; cases hF
   try dsimp only at hF
   rw [Aan.L4] at hF;refine AW.seq fun K1743 hK1743=>?_;refine SW F7 [] [none,none,none,none,none] [] [(42,AV.bool (decide (v12<(v1.length : Int))))] [] [] 2 ?_;by_cases h10 : v12<(v1.length : Int)
   ·replace hF:=AaZ h10 hF;have h10_:=h10;try simp at h10_
    have F8:=A3 F7 h10 h10_;refine CT (by simp [F8] <;> omega) ?_;refine AW.skip ?_;refine hK1743 _ _ _ ?_;refine AW.midF (α:=(List Int)) (fun v14=>Aan.J5 k v12 (fun v12_ v13_=>Aan.L4 k v1 v10 (fun v10_ v11_=>Aan.L3 k v0 v1 n3 v10_ v11_) n4 v12_ v13_) v14=some v4) (fun v14=>[(2,AV.ptr 0 0),(5,AV.slc 1 0 1 v14.length false),(7,Iz v10),(8,Iz v12)]) (fun v14=>[(0,.cells [Iz v0,Q0 v1,Lz v2]),(1,Gi v14)]) 2 (fun K1749 hK1749=>?_) ?_
    ·refine AW.block ?_;refine SR [] [none,none,none,none,none,none,none] fun _ _ g r=>?_;obtain ⟨v15,h11,h12,h13,hF⟩:=Aad hF;have h13_:=Aas h13;try simp at h13_
     have h12_:=h12;try simp at h12_
     have F9:=A6 F8 h11 h12 h13 h13_ h12_;refine TL F9 g r [] [(9,AV.ptr 2 0)] [] [(2,.cells [Iz v15.From,Iz v15.To,Iz v15.Level])] 3 ?_;refine SR [] [none,none,none,none,none,none,none,none,some (57,true),some (57,true),some (57,true),some (57,true),some (57,true),some (57,true),none] fun _ _ g r=>?_;obtain ⟨⟨h14,h15⟩,hF⟩:=AaR hF;have h15_:=Aa3 h15;obtain ⟨v16,h16,h17,h18,hF⟩:=Aad hF;have h18_:=Aas h18;try simp at h18_
     have h17_:=h17;try simp at h17_
     by_cases h19 : v16=v10
     ·replace hF:=AaZ h19 hF;have h19q : v16=v10:=h19;have h19_:=Abf h19q;have h19__:=Abe h19q;obtain ⟨⟨h20,h21⟩,hF⟩:=AaR hF;have h21_:=Aa3 h21;obtain ⟨v17,h22,h23,h24,hF⟩:=Aad hF;have h24_:=Aas h24;try simp at h24_
      have h23_:=h23;try simp at h23_
      have F10:=A9 F9 h14 h15 h15_ h16 h17 h18 h18_ (A9 h17_ h19_ h19__ h20 h21 h21_ h22 h23 (A3 h24 h24_ h23_));refine TL F10 g r [] [(64,AV.bool (v17==(-1)))] [] [] 3 ?_;by_cases h25 : v17=(-1)
      ·replace hF:=AaZ h25 hF;have h25q : v17=(-1):=h25;have h25_:=Abf h25q;have h25__:=Abe h25q;refine CT (by simp [F10,h25_,h25__,h25q] <;> omega) ?_;refine RG [] [none,none,none,none,none,none,none] fun _ _ g r=>?_;obtain ⟨⟨h26,h27⟩,hF⟩:=AaR hF;have h27_:=Aa3 h27;have F11:=A7 F10 h25_ h25__ h25q h26 h27 h27_;try simp [F11]
       and_intros <;> first | exact GK g | apply r | omega | (simp [maxLen,F11] <;> omega)
       refine hK1749 _ _ _ ?_;refine RN h0 [(0,0),(1,1)] [(2,AV.ptr 0 0),(5,AV.slc 1 0 1 ((v13.set (v15.To).toNat (IntKind.wrap .i64 (v10+1))).length) false),(7,Iz v10),(8,Iz v12)] [(0,.cells [Iz v0,Q0 v1,Lz v2]),(1,Gi (v13.set (v15.To).toNat (IntKind.wrap .i64 (v10+1))))] 2 (by simp [F11]) (by simp [F11]) ?_;exact JN (v13.set (v15.To).toNat (IntKind.wrap .i64 (v10+1))) hF (by simp [F11]) (by simp [F11])
      ·replace hF:=Aaa h25 hF;have h25_:=AbY h25;have h25__:=Abc h25;have F12:=A4 F10 h25 h25_ h25__;refine CF (by simp [F12] <;> omega) ?_;refine AW.skip ?_;refine hK1749 _ _ _ ?_;refine RN h0 [(0,0),(1,1)] [(2,AV.ptr 0 0),(5,AV.slc 1 0 1 v13.length false),(7,Iz v10),(8,Iz v12)] [(0,.cells [Iz v0,Q0 v1,Lz v2]),(1,Gi v13)] 2 (by simp [F12]) (by simp [F12]) ?_;exact JN (v13) hF (by simp [F12]) (by simp [F12])
     ·replace hF:=Aaa h19 hF;have h19_:=AbY h19;have h19__:=Abc h19;have F13:=A9 F9 h14 h15 h15_ h16 h17 h18 h18_ (A4 h17_ h19 h19_ h19__);refine TL F13 g r [] [(64,AV.bool false)] [] [] 3 ?_;refine CF (by simp [F13]) ?_;refine AW.skip ?_;refine hK1749 _ _ _ ?_;refine RN h0 [(0,0),(1,1)] [(2,AV.ptr 0 0),(5,AV.slc 1 0 1 v13.length false),(7,Iz v10),(8,Iz v12)] [(0,.cells [Iz v0,Q0 v1,Lz v2]),(1,Gi v13)] 2 (by simp [F13]) (by simp [F13]) ?_;exact JN (v13) hF (by simp [F13]) (by simp [F13])
    ·rintro v14 hF
     try dsimp only at hF
     unfold Aan.J5 at hF;refine RG [] [none,none,none] fun _ _ g r=>?_;try simp [F8]
     and_intros <;> first | exact GK g | apply r | omega | (simp [maxLen,F8] <;> omega)
     refine hK1741 _ _ _ ?_;exact NX (k':=n4) ((IntKind.wrap .i64 (v12+1),v14)) hF (by simp [F8]) (by simp [F8])
   ·replace hF:=Aaa h10 hF;have h10_:=h10;try simp at h10_
    have F14:=A3 F7 h10 h10_;refine CF (by simp [F14] <;> omega) ?_;refine AW.exit ?_;try simp
    refine hK1706 _ _ _ ?_;refine RG [] [none,none,none] fun _ _ g r=>?_;try simp [F14]
    and_intros <;> first | exact GK g | apply r | omega | (simp [maxLen,F14] <;> omega)
    refine hK1656 _ _ _ ?_;exact NX (k':=n3) ((IntKind.wrap .i64 (v10+1),v13)) hF (by simp [F14]) (by simp [F14])
  ·replace hF:=Aaa h9 hF;have h9_:=h9;try simp at h9_
   have F15:=A4 h1 h1_ h9 h9_;refine CF (by simp [F15] <;> omega) ?_;refine AW.exit ?_;try simp
   refine hK1363 _ _ _ ?_;refine SQ [] [none,none] fun _ _ g r=>?_;try simp [F15]
   and_intros <;> first | exact GK g | apply r | omega | (simp [maxLen,F15] <;> omega)
   refine RM h0 [(0,1)] [(4,AV.slc 0 0 1 v11.length false)] [(0,Gi v11)] 1 (by simp [F15]) (by simp [F15]) ?_;simp only [Option.some.injEq] at hF;subst hF;refine AW.ret (hQ _ _ _ ?_ (AaJ ?_)).1
   ·simp [Try.f48,F15]
   ·simp [F15]
theorem Agy (k : Nat) (v0 : Int) (v1 : (List AaA)) (v2 : (List Int)) (v3 : Int) (v4 : (List Int)) (hF : AbT k v0 v1 v2 v3=some v4) :
 AbF Try.prog 32 [AV.agg [AV.int .i64 v0,Q0 v1,AV.lst false false (List.map (AV.int .i64) v2)],AV.int .i64 v3] [] (AV.slc 0 0 1 v4.length false) [some (Gi v4)]:=by
 unfold AbT at hF;refine EN Try.func32 ?_;intro c0 w0 Q h0 hQ
 refine WK [(0,AV.agg [Iz v0,Q0 v1,Lz v2]),(1,Iz v3)] [] 0 (by simp) (by simp) ?_;refine SW trivial [] [none,none] [0] [(2,AV.ptr 0 0)] [] [(0,.cells [Iz v0,Q0 v1,Lz v2])] 1 ?_;refine SW trivial [] [none] [] [(5,AV.lst true true (List.map (AV.int .i64) ([] : List Int)))] [] [] 1 ?_;refine AW.seq fun K121 hK121=>?_;refine SW trivial [] [none] [] [(6,Iz 0)] [] [] 1 ?_;refine AW.block ?_;refine AW.own' 5 1 true (by simp) (by decide) ?_;refine AW.loopF (α:=(Int×(List Int))) (fun n (v5,v6)=>AbT.L1 k v1 v3 n v5 v6=some v4) (fun (v5,v6)=>[(1,Iz v3),(2,AV.ptr 0 0),(5,AV.slc 1 0 1 v6.length false),(6,Iz v5)]) (fun (v5,v6)=>[(0,.cells [Iz v0,Q0 v1,Lz v2]),(1,Gi v6)]) 2 k ((0,([] : List Int))) hF (by simp) (by simp) (by simp) ?_;rintro (_|n1) ⟨v5,v6⟩ hF K150 hK150
 ·try dsimp only at hF
  rw [AbT.L1] at hF; cases hF
 try dsimp only at hF
 rw [AbT.L1] at hF;refine AW.seq fun K152 hK152=>?_;refine SW trivial [] [none,none,none,none,none] [] [(11,AV.bool (decide (v5<(v1.length : Int))))] [] [] 2 ?_;by_cases h1 : v5<(v1.length : Int)
 ·replace hF:=AaZ h1 hF;have h1_:=h1;try simp at h1_
  refine CT (by simp [h1,h1_] <;> omega) ?_;refine AW.skip ?_;refine hK152 _ _ _ ?_;refine AW.midF (α:=(List Int)) (fun v7=>AbT.J2 k v5 (fun v5_ v6_=>AbT.L1 k v1 v3 n1 v5_ v6_) v7=some v4) (fun v7=>[(1,Iz v3),(2,AV.ptr 0 0),(5,AV.slc 1 0 1 v7.length false),(6,Iz v5)]) (fun v7=>[(0,.cells [Iz v0,Q0 v1,Lz v2]),(1,Gi v7)]) 2 (fun K157 hK157=>?_) ?_
  ·refine AW.block ?_;refine SR [] [none,none,none,none,none,none,none,none] fun _ _ g r=>?_;obtain ⟨v8,h2,h3,h4,hF⟩:=Aad hF;have h4_:=Aas h4;try simp at h4_
   have h3_:=h3;try simp at h3_
   have F1:=A7 h1 h1_ h2 h3 h4 h4_ h3_;refine TL F1 g r [] [(21,AV.bool (v8.From==v3))] [] [] 2 ?_;by_cases h5 : v8.From=v3
   ·replace hF:=AaZ h5 hF;have h5q : v8.From=v3:=h5;have h5_:=Abf h5q;have h5__:=Abe h5q;refine CT (by simp [F1,h5_,h5__] <;> omega) ?_;refine RG [] [none,none,none,none,none,none,none,none,none,none] fun _ _ g r=>?_;obtain ⟨h6,hF⟩:=AaR hF;have h6_:=h6;try simp at h6_
    have F2:=A4 F1 h5_ h5__ h6;try simp [F2]
    and_intros <;> first | exact GK g | apply r | omega | (simp [maxLen,F2] <;> omega)
    refine hK157 _ _ _ ?_;refine RN h0 [(0,0),(1,2)] [(1,Iz v3),(2,AV.ptr 0 0),(5,AV.slc 1 0 1 ((v6++([v8.To] : List Int)).length) false),(6,Iz v5)] [(0,.cells [Iz v0,Q0 v1,Lz v2]),(1,Gi (v6++([v8.To] : List Int)))] 2 (by simp [F2] <;> omega) (by simp [F2]) ?_;exact JN (v6++([v8.To] : List Int)) hF (by simp [F2]) (by simp [F2])
   ·replace hF:=Aaa h5 hF;have h5_:=AbY h5;have h5__:=Abc h5;have F3:=A4 F1 h5 h5_ h5__;refine CF (by simp [F3] <;> omega) ?_;refine AW.skip ?_;refine hK157 _ _ _ ?_;exact JN (v6) hF (by simp [F3]) (by simp [F3])
  ·rintro v7 hF
   try dsimp only at hF
   unfold AbT.J2 at hF;refine RG [] [none,none,none] fun _ _ g r=>?_;try simp [h1,h1_]
   and_intros <;> first | exact GK g | apply r | omega | (simp [h1,h1_,maxLen] <;> omega)
   refine hK150 _ _ _ ?_;exact NX (k':=n1) ((IntKind.wrap .i64 (v5+1),v7)) hF (by simp [h1,h1_]) (by simp [h1,h1_])
 ·replace hF:=Aaa h1 hF;have h1_:=h1;try simp at h1_
  refine CF (by simp [h1,h1_] <;> omega) ?_;refine AW.exit ?_;try simp
  refine hK121 _ _ _ ?_;refine SQ [] [none,none] fun _ _ g r=>?_;try simp [h1,h1_]
  and_intros <;> first | exact GK g | apply r | omega | (simp [h1,h1_,maxLen] <;> omega)
  refine RM h0 [(0,1)] [(4,AV.slc 0 0 1 v6.length false)] [(0,Gi v6)] 1 (by simp [h1,h1_]) (by simp [h1,h1_]) ?_;simp only [Option.some.injEq] at hF;subst hF;refine AW.ret (hQ _ _ _ ?_ (AaJ ?_)).1
  ·simp [Try.f32,h1,h1_]
  ·simp [h1,h1_]
end Go.TF
