import Derived.Test.YtelffnegemdicaaPtzWal29
import Derived.Test.YtelffnegemdicaaPtzWal30
import Derived.Test.YtelffnegemdicaaPtzWal33
import Derived.Test.YtelffnegemdicaaPtzWal34
set_option linter.unusedVariables false
set_option linter.unusedSimpArgs false
set_option maxRecDepth 100000
set_option maxHeartbeats 4000000
namespace Go.TF
open Go Go.Abs Go.Proofs Go.Proofs.YtelffnegemdicaaPtT
theorem Ah5 (k : Nat) (v0 : Int) (v1 : (List AaA)) (v2 : (List Int)) (v3 : Int) (v4 : Int) (v5 : Int) (v6 : Bool) (hF : AbD k v0 v1 v2 v3 v4=some (v5,v6)) :
 AbF Try.prog 64 [AV.agg [AV.int .i64 v0,Q0 v1,AV.lst false false (List.map (AV.int .i64) v2)],AV.int .i64 v3,AV.int .i64 v4] [] (AV.tup [AV.int .i64 v5,AV.bool v6]) []:=by
 unfold AbD at hF;refine EN Try.func64 ?_;intro c0 w0 Q h0 hQ
 refine WK [(0,AV.agg [Iz v0,Q0 v1,Lz v2]),(1,Iz v3),(2,Iz v4)] [] 0 (by simp) (by simp) ?_;refine SQ [] [none,none,none] fun _ _ g r=>?_;try simp
 and_intros <;> first | exact GK g | apply r | omega | (simp [maxLen] <;> omega)
 refine WK [(1,Iz v3),(2,Iz v4),(3,AV.ptr 0 0)] [(0,.cells [Iz v0,Q0 v1,Lz v2])] 1 (by simp) (by simp) ?_;refine SQ [] [none] fun _ _ g r=>?_;try simp
 and_intros <;> first | exact GK g | apply r | omega | (simp [maxLen] <;> omega)
 refine WK [(1,Iz v3),(2,Iz v4),(3,AV.ptr 0 0),(8,Iz 0)] [(0,.cells [Iz v0,Q0 v1,Lz v2])] 1 (by simp) (by simp) ?_;refine AW.midF (α:=Int) (fun v7=>AbD.J1 k v1 v3 v4 v7=some (v5,v6)) (fun v7=>[(1,Iz v3),(2,Iz v4),(3,AV.ptr 0 0),(8,Iz v7)]) (fun v7=>[(0,.cells [Iz v0,Q0 v1,Lz v2])]) 1 (fun K59 hK59=>?_) ?_
 ·refine AW.block ?_;refine AW.loopF (α:=Int) (fun n v9=>AbD.L2 k v1 v3 v4 n v9=some (v5,v6)) (fun v9=>[(1,Iz v3),(2,Iz v4),(3,AV.ptr 0 0),(8,Iz v9)]) (fun v9=>[(0,.cells [Iz v0,Q0 v1,Lz v2])]) 1 k (0) hF (by simp) (by simp) (by simp) ?_;rintro (_|n2) v9 hF K72 hK72
  ·try dsimp only at hF
   rw [AbD.L2] at hF; cases hF
  try dsimp only at hF
  rw [AbD.L2] at hF;refine AW.seq fun K74 hK74=>?_;refine SQ [] [none,none,none,none,none,none,some (14,true),some (14,true),some (14,true),some (14,true),some (14,true),some (14,true),some (14,true),some (14,true),some (14,true),none] fun _ _ g r=>?_;by_cases h6 : v9<(v1.length : Int)
  ·replace hF:=Aag h6 hF;have h6_:=h6;try simp at h6_
   obtain ⟨v10,h7,h8,h9,hF⟩:=Aam hF;have h9_:=Aa2 h9;try simp at h9_
   have h8_:=h8;try simp at h8_
   have F1:=A7 h6 h6_ h7 h8 h9 h9_ h8_;try simp [F1]
   and_intros
   try any_goals first | omega | (simp [maxLen,F1] <;> omega)
   obtain ⟨v11,h10,hF⟩:=AaQ hF;refine AC (AfG k _ _ _ _ _ _ _ h10) (.cons (.same (by simp [F1])) (.cons (.same (by simp [F1])) .nil)) ?_;try simp [F1]
   and_intros <;> first | exact GK g | apply r | omega | (simp [maxLen,F1] <;> omega)
   refine WK [(1,Iz v3),(2,Iz v4),(3,AV.ptr 0 0),(8,Iz v9),(24,AV.bool v11)] [(0,.cells [Iz v0,Q0 v1,Lz v2])] 1 (by simp [F1]) (by simp [F1]) ?_;by_cases h11 : v11=true
   ·replace hF:=Aag h11 hF;have h11_:=h11;try simp at h11_
    have F2:=A3 F1 h11 h11_;refine CT (by simp [F2] <;> omega) ?_;refine AW.skip ?_;refine hK74 _ _ _ ?_;refine AW.block ?_;refine RG [] [none,none,none] fun _ _ g r=>?_;try simp [F2]
    and_intros <;> first | exact GK g | apply r | omega | (simp [maxLen,F2] <;> omega)
    refine hK72 _ _ _ ?_;exact NX (k':=n2) (IntKind.wrap .i64 (v9+1)) hF (by simp [F2]) (by simp [F2])
   ·replace hF:=Aah h11 hF;have h11_:=h11;try simp at h11_
    have F3:=A3 F1 h11 h11_;refine CF (by simp [F3] <;> omega) ?_;refine AW.exit ?_;try simp
    refine hK59 _ _ _ ?_;exact JN (v9) hF (by simp [F3]) (by simp [F3])
  ·replace hF:=Aah h6 hF;have h6_:=h6;try simp at h6_
   try simp [h6,h6_]
   and_intros <;> first | exact GK g | apply r | omega | (simp [h6,h6_,maxLen] <;> omega)
   refine WK [(1,Iz v3),(2,Iz v4),(3,AV.ptr 0 0),(8,Iz v9),(24,AV.bool false)] [(0,.cells [Iz v0,Q0 v1,Lz v2])] 1 (by simp [h6,h6_]) (by simp [h6,h6_]) ?_;refine CF (by simp [h6,h6_]) ?_;refine AW.exit ?_;try simp
   refine hK59 _ _ _ ?_;exact JN (v9) hF (by simp [h6,h6_]) (by simp [h6,h6_])
 ·rintro v7 hF
  try dsimp only at hF
  unfold AbD.J1 at hF;refine SQ [] [none,none,none,none,none,none,none,some (33,true),some (33,true),some (33,true),some (33,true),some (33,true),some (33,true),some (33,true),some (33,true),none,none,some (43,true),some (43,true),some (43,true),some (43,true),some (43,true),some (43,true),some (43,true),some (43,true),none,none,none] fun _ _ g r=>?_;by_cases h1 : v7<(v1.length : Int)
  ·replace hF:=Aag h1 hF;have h1_:=h1;try simp at h1_
   obtain ⟨v8,h2,h3,h4,hF⟩:=Aam hF;have h4_:=Aa2 h4;try simp at h4_
   have h3_:=h3;try simp at h3_
   by_cases h5 : v8.From=v3
   ·replace hF:=Aag h5 hF;have h5q : v8.From=v3:=h5;have h5_:=Abm h5q;have h5__:=Abl h5q;have F4:=A9 h1 h1_ h2 h3 h4 h4_ h3_ h5_ h5__;try simp [F4]
    and_intros <;> first | exact GK g | apply r | omega | (simp [maxLen,F4] <;> omega)
    refine WK [(6,Iz v7),(7,AV.bool (v8.To==v4))] [] 1 (by simp [F4]) (by simp [F4]) ?_;simp only [Option.some.injEq,Prod.mk.injEq] at hF;obtain ⟨e0,e1⟩:=hF;subst e0 e1;refine AW.ret (hQ _ _ _ ?_ (AaI ?_)).1
    ·simp [Try.f64,F4]
    ·simp [F4]
   ·replace hF:=Aah h5 hF;have h5_:=Abg h5;have h5__:=Abi h5;have F5:=A9 h1 h1_ h2 h3 h4 h4_ h3_ h5 (A2 h5_ h5__);try simp [F5]
    and_intros <;> first | exact GK g | apply r | omega | (simp [maxLen,F5] <;> omega)
    refine WK [(6,Iz v7),(7,AV.bool false)] [] 1 (by simp [F5]) (by simp [F5]) ?_;simp only [Option.some.injEq,Prod.mk.injEq] at hF;obtain ⟨e0,e1⟩:=hF;subst e0 e1;refine AW.ret (hQ _ _ _ ?_ (AaI ?_)).1
    ·simp [Try.f64,F5]
    ·simp [F5]
  ·replace hF:=Aah h1 hF;have h1_:=h1;try simp at h1_
   try simp [h1,h1_]
   and_intros <;> first | exact GK g | apply r | omega | (simp [h1,h1_,maxLen] <;> omega)
   refine WK [(6,Iz v7),(7,AV.bool false)] [] 1 (by simp [h1,h1_]) (by simp [h1,h1_]) ?_;simp only [Option.some.injEq,Prod.mk.injEq] at hF;obtain ⟨e0,e1⟩:=hF;subst e0 e1;refine AW.ret (hQ _ _ _ ?_ (AaI ?_)).1
   ·simp [Try.f64,h1,h1_]
   ·simp [h1,h1_]
theorem AhN (k : Nat) (v0 : Int) (v1 : (List AaA)) (v2 : (List Int)) (v3 : Int) (v4 : (List AaA)) (v5 : (List Int)) (hF : Adt k v0 v1 v2=some (v3,v4,v5)) :
 AbF Try.prog 56 [AV.agg [AV.int .i64 v0,Q0 v1,AV.lst false false (List.map (AV.int .i64) v2)]] [] (AV.agg [AV.int .i64 v3,AV.slc 0 0 3 v4.length false,AV.slc 1 0 1 v5.length false]) [some (.grow (AaJ (List.map AaA.av v4))),some (Gi v5)]:=by
 unfold Adt at hF;refine EN Try.func56 ?_;intro c0 w0 Q h0 hQ
 refine WK [(0,AV.agg [Iz v0,Q0 v1,Lz v2])] [] 0 (by simp) (by simp) ?_;refine SQ [] [none,none] fun _ _ g r=>?_;try simp
 and_intros <;> first | exact GK g | apply r | omega | (simp [maxLen] <;> omega)
 refine WK [(1,AV.ptr 0 0),(2,AV.ptr 1 0)] [(0,.cells [Iz v0,Q0 v1,Lz v2]),(1,.cells [Iz 0,AV.lst true true (List.map AaA.av ([] : List AaA)),AV.lst true true (List.map (AV.int .i64) ([] : List Int))])] 2 (by simp) (by simp) ?_;refine SQ [7,10] [none,none,none,none,none,none,none,none,none,none] fun _ _ g r=>?_;obtain ⟨h1,hF⟩:=Aab hF;have h1_:=h1;try simp at h1_
 obtain ⟨h2,hF⟩:=Aab hF;have h2_:=h2;try simp at h2_
 try simp [h1,h2]
 and_intros <;> first | exact GK g | apply r | omega | (simp [h1,h2,maxLen] <;> omega)
 refine RM h0 [(0,2),(1,3),(2,1)] [(2,AV.ptr 2 0)] [(0,.grow (AaJ (List.map AaA.av v1))),(1,Gi v2),(2,.cells [Iz v0,AV.slc 0 0 3 v1.length false,AV.slc 1 0 1 v2.length false])] 3 (by simp [h1,h2]) (by simp [h1,h2]) ?_;simp only [Option.some.injEq,Prod.mk.injEq] at hF;obtain ⟨e0,e1,e2⟩:=hF;subst e0 e1 e2;refine AW.ret (hQ _ _ _ ?_ (AaI ?_)).1
 ·simp [Try.f56,h1,h2]
 ·simp [h1,h2]
abbrev Aar  : Aat := .cells [Iz 0,AV.lst true true (List.map AaA.av ([] : List AaA)),AV.lst true true (List.map (AV.int .i64) ([] : List Int))]
abbrev AbK  : Aat := .cells [Iz 0,AV.slc 0 0 3 (([] : List AaA).length) false,AV.slc 1 0 1 (([] : List Int).length) false]
theorem AhM (k : Nat) (v0 : Int) (v1 : (List AaA)) (v2 : (List Int)) (v3 : Int) (v4 : Int) (v5 : Int) (v6 : Int) (v7 : (List AaA)) (v8 : (List Int)) (v9 : Int) (hF : AdM k v0 v1 v2 v3 v4 v5=some (v6,v7,v8,v9)) :
 AbF Try.prog 35 [AV.agg [AV.int .i64 v0,Q0 v1,AV.lst false false (List.map (AV.int .i64) v2)],AV.agg [AV.int .i64 v3,AV.int .i64 v4,AV.int .i64 v5]] [] (AV.tup [AV.agg [AV.int .i64 v6,AV.slc 0 0 3 v7.length false,AV.slc 1 0 1 v8.length false],AV.int .i64 v9]) [some (.grow (AaJ (List.map AaA.av v7))),some (Gi v8)]:=by
 unfold AdM at hF;refine EN Try.func35 ?_;intro c0 w0 Q h0 hQ
 refine WK [(0,AV.agg [Iz v0,Q0 v1,Lz v2]),(1,AV.agg [Iz v3,Iz v4,Iz v5])] [] 0 (by simp) (by simp) ?_;refine SQ [] [none,none,none,none] fun _ _ g r=>?_;try simp
 and_intros <;> first | exact GK g | apply r | omega | (simp [maxLen] <;> omega)
 refine WK [(2,AV.ptr 0 0),(3,AV.ptr 1 0),(4,AV.ptr 2 0)] [(0,.cells [Iz v0,Q0 v1,Lz v2]),(1,.cells [Iz v3,Iz v4,Iz v5]),(2,Aar )] 3 (by simp) (by simp) ?_;refine AW.seq fun K45 hK45=>?_;refine SQ [] [none,none,none] fun _ _ g r=>?_;try simp
 and_intros
 try any_goals first | omega | (simp [maxLen] <;> omega)
 obtain ⟨v10,h1,hF⟩:=AaQ hF;refine AC (Ah6 k _ _ _ _ h1) (.cons (.same (by simp)) .nil) ?_;try simp
 and_intros <;> first | exact GK g | apply r | omega | (simp [maxLen] <;> omega)
 refine WK [(2,AV.ptr 0 0),(3,AV.ptr 1 0),(4,AV.ptr 2 0),(11,AV.bool (v10 !=0))] [(0,.cells [Iz v0,Q0 v1,Lz v2]),(1,.cells [Iz v3,Iz v4,Iz v5]),(2,Aar )] 3 (by simp) (by simp) ?_;by_cases h2 : v10≠0
 ·replace hF:=Aag h2 hF;have h2_:=Abg h2;have h2__:=Abi h2;have F1:=A3 h2 h2_ h2__;refine CT (by simp [F1] <;> omega) ?_;refine SQ [] [none,none,none] fun _ _ g r=>?_;try simp [F1]
  and_intros <;> first | exact GK g | apply r | omega | (simp [maxLen,F1] <;> omega)
  refine WK [(4,AV.ptr 2 0),(5,Iz 14)] [(2,Aar )] 3 (by simp [F1]) (by simp [F1]) ?_;refine AW.ownC 2 1 3 true (cs:=[Iz 0,AV.lst true true (List.map AaA.av ([] : List AaA)),AV.lst true true (List.map (AV.int .i64) ([] : List Int))]) (by simp [F1]) (by simp) ?_;refine AW.ownC 2 2 1 true (cs:=[Iz 0,AV.slc 3 0 3 (([] : List AaA).length) false,AV.lst true true (List.map (AV.int .i64) ([] : List Int))]) (by simp [F1]) (by simp) ?_;refine RM h0 [(0,3),(1,4),(2,2)] [(4,AV.ptr 2 0),(5,Iz 14)] [(0,.grow (AaJ (List.map AaA.av ([] : List AaA)))),(1,Gi ([] : List Int)),(2,AbK )] 3 (by simp [F1]) (by simp [F1]) ?_;simp only [Option.some.injEq,Prod.mk.injEq] at hF;obtain ⟨e0,e1,e2,e3⟩:=hF;subst e0 e1 e2 e3;refine AW.ret (hQ _ _ _ ?_ (AaI ?_)).1
  ·simp [Try.f35,F1]
  ·simp [F1]
 ·replace hF:=Aah h2 hF;have h2q : v10=0:=Classical.not_not.1 h2;have h2_:=Abm h2q;have h2__:=Abl h2q;have F2:=A3 h2_ h2__ h2q;refine CF (by simp [F2] <;> omega) ?_;refine AW.skip ?_;refine hK45 _ _ _ ?_;refine SQ [] [none,none,none,none,none,none,none,none,none,none,none] fun _ _ g r=>?_;try simp [F2]
  and_intros
  try any_goals first | omega | (simp [maxLen,F2] <;> omega)
  obtain ⟨v11,v12,h3,hF⟩:=Abd hF;refine AC (Ah5 k _ _ _ _ _ _ _ h3) (.cons (.same (by simp [F2])) (.cons (.same (by simp [F2])) (.cons (.same (by simp [F2])) .nil))) ?_;try simp [F2]
  and_intros <;> first | exact GK g | apply r | omega | (simp [maxLen,F2] <;> omega)
  refine WK [(2,AV.ptr 0 0),(3,AV.ptr 1 0),(4,AV.ptr 2 0),(6,Iz v11),(7,AV.bool v12)] [(0,.cells [Iz v0,Q0 v1,Lz v2]),(1,.cells [Iz v3,Iz v4,Iz v5]),(2,Aar )] 3 (by simp [F2]) (by simp [F2]) ?_;refine AW.seq fun K64 hK64=>?_;refine AW.block ?_;refine SQ [] [none,none,none,none,some (26,false),some (26,false),some (26,false),some (26,false),some (26,false),none,none,some (33,false),some (33,false),some (33,false),none,none,some (38,false),some (38,false),some (38,false),some (38,false),some (38,false),none,none,some (45,false),some (45,false),some (45,false),some (45,false),some (45,false),none,none,some (52,false),some (52,false),some (52,false),some (52,false),some (52,false),none,none,some (59,false),some (59,false),some (59,false),some (59,false),some (59,false),none,none] fun _ _ g r=>?_;by_cases h4 : v3<0
  ·replace hF:=Aag h4 hF;have h4_:=h4;try simp at h4_
   have F3:=A3 F2 h4 h4_;try simp [F3]
   and_intros <;> first | exact GK g | apply r | omega | (simp [maxLen,F3] <;> omega)
   refine WK [(2,AV.ptr 0 0),(3,AV.ptr 1 0),(4,AV.ptr 2 0),(6,Iz v11),(7,AV.bool v12),(22,AV.bool true)] [(0,.cells [Iz v0,Q0 v1,Lz v2]),(1,.cells [Iz v3,Iz v4,Iz v5]),(2,Aar )] 3 (by simp [F3]) (by simp [F3]) ?_;refine CT (by simp [F3]) ?_;refine SQ [] [none,none,none] fun _ _ g r=>?_;try simp [F3]
   and_intros <;> first | exact GK g | apply r | omega | (simp [maxLen,F3] <;> omega)
   refine WK [(4,AV.ptr 2 0),(5,Iz 4)] [(2,Aar )] 3 (by simp [F3]) (by simp [F3]) ?_;refine AW.ownC 2 1 3 true (cs:=[Iz 0,AV.lst true true (List.map AaA.av ([] : List AaA)),AV.lst true true (List.map (AV.int .i64) ([] : List Int))]) (by simp [F3]) (by simp) ?_;refine AW.ownC 2 2 1 true (cs:=[Iz 0,AV.slc 3 0 3 (([] : List AaA).length) false,AV.lst true true (List.map (AV.int .i64) ([] : List Int))]) (by simp [F3]) (by simp) ?_;refine RM h0 [(0,3),(1,4),(2,2)] [(4,AV.ptr 2 0),(5,Iz 4)] [(0,.grow (AaJ (List.map AaA.av ([] : List AaA)))),(1,Gi ([] : List Int)),(2,AbK )] 3 (by simp [F3]) (by simp [F3]) ?_;simp only [Option.some.injEq,Prod.mk.injEq] at hF;obtain ⟨e0,e1,e2,e3⟩:=hF;subst e0 e1 e2 e3;refine AW.ret (hQ _ _ _ ?_ (AaI ?_)).1
   ·simp [Try.f35,F3]
   ·simp [F3]
  ·replace hF:=Aah h4 hF;have h4_:=h4;try simp at h4_
   by_cases h5 : v0≤v3
   ·replace hF:=Aag h5 hF;have h5_:=h5;try simp at h5_
    have F4:=A5 F2 h4 h4_ h5 h5_;try simp [F4]
    and_intros <;> first | exact GK g | apply r | omega | (simp [maxLen,F4] <;> omega)
    refine WK [(2,AV.ptr 0 0),(3,AV.ptr 1 0),(4,AV.ptr 2 0),(6,Iz v11),(7,AV.bool v12),(22,AV.bool true)] [(0,.cells [Iz v0,Q0 v1,Lz v2]),(1,.cells [Iz v3,Iz v4,Iz v5]),(2,Aar )] 3 (by simp [F4]) (by simp [F4]) ?_;refine CT (by simp [F4]) ?_;refine SQ [] [none,none,none] fun _ _ g r=>?_;try simp [F4]
    and_intros <;> first | exact GK g | apply r | omega | (simp [maxLen,F4] <;> omega)
    refine WK [(4,AV.ptr 2 0),(5,Iz 4)] [(2,Aar )] 3 (by simp [F4]) (by simp [F4]) ?_;refine AW.ownC 2 1 3 true (cs:=[Iz 0,AV.lst true true (List.map AaA.av ([] : List AaA)),AV.lst true true (List.map (AV.int .i64) ([] : List Int))]) (by simp [F4]) (by simp) ?_;refine AW.ownC 2 2 1 true (cs:=[Iz 0,AV.slc 3 0 3 (([] : List AaA).length) false,AV.lst true true (List.map (AV.int .i64) ([] : List Int))]) (by simp [F4]) (by simp) ?_;refine RM h0 [(0,3),(1,4),(2,2)] [(4,AV.ptr 2 0),(5,Iz 4)] [(0,.grow (AaJ (List.map AaA.av ([] : List AaA)))),(1,Gi ([] : List Int)),(2,AbK )] 3 (by simp [F4]) (by simp [F4]) ?_;simp only [Option.some.injEq,Prod.mk.injEq] at hF;obtain ⟨e0,e1,e2,e3⟩:=hF;subst e0 e1 e2 e3;refine AW.ret (hQ _ _ _ ?_ (AaI ?_)).1
    ·simp [Try.f35,F4]
    ·simp [F4]
   ·replace hF:=Aah h5 hF;have h5_:=h5;try simp at h5_
    by_cases h6 : v4<0
    ·replace hF:=Aag h6 hF;have h6_:=h6;try simp at h6_
     have F5:=A7 F2 h4 h4_ h5 h5_ h6 h6_;try simp [F5]
     and_intros <;> first | exact GK g | apply r | omega | (simp [maxLen,F5] <;> omega)
     refine WK [(2,AV.ptr 0 0),(3,AV.ptr 1 0),(4,AV.ptr 2 0),(6,Iz v11),(7,AV.bool v12),(22,AV.bool true)] [(0,.cells [Iz v0,Q0 v1,Lz v2]),(1,.cells [Iz v3,Iz v4,Iz v5]),(2,Aar )] 3 (by simp [F5]) (by simp [F5]) ?_;refine CT (by simp [F5]) ?_;refine SQ [] [none,none,none] fun _ _ g r=>?_;try simp [F5]
     and_intros <;> first | exact GK g | apply r | omega | (simp [maxLen,F5] <;> omega)
     refine WK [(4,AV.ptr 2 0),(5,Iz 4)] [(2,Aar )] 3 (by simp [F5]) (by simp [F5]) ?_;refine AW.ownC 2 1 3 true (cs:=[Iz 0,AV.lst true true (List.map AaA.av ([] : List AaA)),AV.lst true true (List.map (AV.int .i64) ([] : List Int))]) (by simp [F5]) (by simp) ?_;refine AW.ownC 2 2 1 true (cs:=[Iz 0,AV.slc 3 0 3 (([] : List AaA).length) false,AV.lst true true (List.map (AV.int .i64) ([] : List Int))]) (by simp [F5]) (by simp) ?_;refine RM h0 [(0,3),(1,4),(2,2)] [(4,AV.ptr 2 0),(5,Iz 4)] [(0,.grow (AaJ (List.map AaA.av ([] : List AaA)))),(1,Gi ([] : List Int)),(2,AbK )] 3 (by simp [F5]) (by simp [F5]) ?_;simp only [Option.some.injEq,Prod.mk.injEq] at hF;obtain ⟨e0,e1,e2,e3⟩:=hF;subst e0 e1 e2 e3;refine AW.ret (hQ _ _ _ ?_ (AaI ?_)).1
     ·simp [Try.f35,F5]
     ·simp [F5]
    ·replace hF:=Aah h6 hF;have h6_:=h6;try simp at h6_
     by_cases h7 : v0≤v4
     ·replace hF:=Aag h7 hF;have h7_:=h7;try simp at h7_
      have F6:=A9 F2 h4 h4_ h5 h5_ h6 h6_ h7 h7_;try simp [F6]
      and_intros <;> first | exact GK g | apply r | omega | (simp [maxLen,F6] <;> omega)
      refine WK [(2,AV.ptr 0 0),(3,AV.ptr 1 0),(4,AV.ptr 2 0),(6,Iz v11),(7,AV.bool v12),(22,AV.bool true)] [(0,.cells [Iz v0,Q0 v1,Lz v2]),(1,.cells [Iz v3,Iz v4,Iz v5]),(2,Aar )] 3 (by simp [F6]) (by simp [F6]) ?_;refine CT (by simp [F6]) ?_;refine SQ [] [none,none,none] fun _ _ g r=>?_;try simp [F6]
      and_intros <;> first | exact GK g | apply r | omega | (simp [maxLen,F6] <;> omega)
      refine WK [(4,AV.ptr 2 0),(5,Iz 4)] [(2,Aar )] 3 (by simp [F6]) (by simp [F6]) ?_;refine AW.ownC 2 1 3 true (cs:=[Iz 0,AV.lst true true (List.map AaA.av ([] : List AaA)),AV.lst true true (List.map (AV.int .i64) ([] : List Int))]) (by simp [F6]) (by simp) ?_;refine AW.ownC 2 2 1 true (cs:=[Iz 0,AV.slc 3 0 3 (([] : List AaA).length) false,AV.lst true true (List.map (AV.int .i64) ([] : List Int))]) (by simp [F6]) (by simp) ?_;refine RM h0 [(0,3),(1,4),(2,2)] [(4,AV.ptr 2 0),(5,Iz 4)] [(0,.grow (AaJ (List.map AaA.av ([] : List AaA)))),(1,Gi ([] : List Int)),(2,AbK )] 3 (by simp [F6]) (by simp [F6]) ?_;simp only [Option.some.injEq,Prod.mk.injEq] at hF;obtain ⟨e0,e1,e2,e3⟩:=hF;subst e0 e1 e2 e3;refine AW.ret (hQ _ _ _ ?_ (AaI ?_)).1
      ·simp [Try.f35,F6]
      ·simp [F6]
     ·replace hF:=Aah h7 hF;have h7_:=h7;try simp at h7_
      by_cases h8 : v3=v4
      ·replace hF:=Aag h8 hF;have h8q : v3=v4:=h8;have h8_:=Abm h8q;have h8__:=Abl h8q;have F7:=A9 F2 h4 h4_ h5 h5_ h6 h6_ h7 (A3 h7_ h8_ h8__);try simp [F7]
       and_intros <;> first | exact GK g | apply r | omega | (simp [maxLen,F7] <;> omega)
       refine WK [(2,AV.ptr 0 0),(3,AV.ptr 1 0),(4,AV.ptr 2 0),(6,Iz v11),(7,AV.bool v12),(22,AV.bool true)] [(0,.cells [Iz v0,Q0 v1,Lz v2]),(1,.cells [Iz v3,Iz v4,Iz v5]),(2,Aar )] 3 (by simp [F7]) (by simp [F7]) ?_;refine CT (by simp [F7]) ?_;refine SQ [] [none,none,none] fun _ _ g r=>?_;try simp [F7]
       and_intros <;> first | exact GK g | apply r | omega | (simp [maxLen,F7] <;> omega)
       refine WK [(4,AV.ptr 2 0),(5,Iz 4)] [(2,Aar )] 3 (by simp [F7]) (by simp [F7]) ?_;refine AW.ownC 2 1 3 true (cs:=[Iz 0,AV.lst true true (List.map AaA.av ([] : List AaA)),AV.lst true true (List.map (AV.int .i64) ([] : List Int))]) (by simp [F7]) (by simp) ?_;refine AW.ownC 2 2 1 true (cs:=[Iz 0,AV.slc 3 0 3 (([] : List AaA).length) false,AV.lst true true (List.map (AV.int .i64) ([] : List Int))]) (by simp [F7]) (by simp) ?_;refine RM h0 [(0,3),(1,4),(2,2)] [(4,AV.ptr 2 0),(5,Iz 4)] [(0,.grow (AaJ (List.map AaA.av ([] : List AaA)))),(1,Gi ([] : List Int)),(2,AbK )] 3 (by simp [F7]) (by simp [F7]) ?_;simp only [Option.some.injEq,Prod.mk.injEq] at hF;obtain ⟨e0,e1,e2,e3⟩:=hF;subst e0 e1 e2 e3;refine AW.ret (hQ _ _ _ ?_ (AaI ?_)).1
       ·simp [Try.f35,F7]
       ·simp [F7]
      ·replace hF:=Aah h8 hF;have h8_:=Abg h8;have h8__:=Abi h8;have F8:=A9 F2 h4 h4_ h5 h5_ h6 h6_ h7 (A4 h7_ h8 h8_ h8__);try simp [F8]
       and_intros
       try any_goals first | omega | (simp [maxLen,F8] <;> omega)
       obtain ⟨v13,h9,hF⟩:=AaQ hF;refine AC (Ack k _ _ _ h9) (.cons (.same (by simp [F8])) (.cons (.same (by simp [F8])) .nil)) ?_;by_cases h10 : v13=true
       ·replace hF:=Aag h10 hF;have h10_:=h10;try simp at h10_
        have F9:=A3 F8 h10 h10_;try simp [F9]
        and_intros <;> first | exact GK g | apply r | omega | (simp [maxLen,F9] <;> omega)
        refine WK [(2,AV.ptr 0 0),(3,AV.ptr 1 0),(4,AV.ptr 2 0),(6,Iz v11),(7,AV.bool v12),(22,AV.bool true)] [(0,.cells [Iz v0,Q0 v1,Lz v2]),(1,.cells [Iz v3,Iz v4,Iz v5]),(2,Aar )] 3 (by simp [F9]) (by simp [F9]) ?_;refine CT (by simp [F9]) ?_;refine SQ [] [none,none,none] fun _ _ g r=>?_;try simp [F9]
        and_intros <;> first | exact GK g | apply r | omega | (simp [maxLen,F9] <;> omega)
        refine WK [(4,AV.ptr 2 0),(5,Iz 4)] [(2,Aar )] 3 (by simp [F9]) (by simp [F9]) ?_;refine AW.ownC 2 1 3 true (cs:=[Iz 0,AV.lst true true (List.map AaA.av ([] : List AaA)),AV.lst true true (List.map (AV.int .i64) ([] : List Int))]) (by simp [F9]) (by simp) ?_;refine AW.ownC 2 2 1 true (cs:=[Iz 0,AV.slc 3 0 3 (([] : List AaA).length) false,AV.lst true true (List.map (AV.int .i64) ([] : List Int))]) (by simp [F9]) (by simp) ?_;refine RM h0 [(0,3),(1,4),(2,2)] [(4,AV.ptr 2 0),(5,Iz 4)] [(0,.grow (AaJ (List.map AaA.av ([] : List AaA)))),(1,Gi ([] : List Int)),(2,AbK )] 3 (by simp [F9]) (by simp [F9]) ?_;simp only [Option.some.injEq,Prod.mk.injEq] at hF;obtain ⟨e0,e1,e2,e3⟩:=hF;subst e0 e1 e2 e3;refine AW.ret (hQ _ _ _ ?_ (AaI ?_)).1
        ·simp [Try.f35,F9]
        ·simp [F9]
       ·replace hF:=Aah h10 hF;have h10_:=h10;try simp at h10_
        have F10:=A3 F8 h10 h10_;try simp [F10]
        and_intros
        try any_goals first | omega | (simp [maxLen,F10] <;> omega)
        obtain ⟨v14,h11,hF⟩:=AaQ hF;refine AC (Ack k _ _ _ h11) (.cons (.same (by simp [F10])) (.cons (.same (by simp [F10])) .nil)) ?_;try simp [F10]
        and_intros <;> first | exact GK g | apply r | omega | (simp [maxLen,F10] <;> omega)
        refine WK [(2,AV.ptr 0 0),(3,AV.ptr 1 0),(4,AV.ptr 2 0),(6,Iz v11),(7,AV.bool v12),(22,AV.bool v14)] [(0,.cells [Iz v0,Q0 v1,Lz v2]),(1,.cells [Iz v3,Iz v4,Iz v5]),(2,Aar )] 3 (by simp [F10]) (by simp [F10]) ?_;by_cases h12 : v14=true
        ·replace hF:=Aag h12 hF;have h12_:=h12;try simp at h12_
         have F11:=A3 F10 h12 h12_;refine CT (by simp [F11] <;> omega) ?_;refine SQ [] [none,none,none] fun _ _ g r=>?_;try simp [F11]
         and_intros <;> first | exact GK g | apply r | omega | (simp [maxLen,F11] <;> omega)
         refine WK [(4,AV.ptr 2 0),(5,Iz 4)] [(2,Aar )] 3 (by simp [F11]) (by simp [F11]) ?_;refine AW.ownC 2 1 3 true (cs:=[Iz 0,AV.lst true true (List.map AaA.av ([] : List AaA)),AV.lst true true (List.map (AV.int .i64) ([] : List Int))]) (by simp [F11]) (by simp) ?_;refine AW.ownC 2 2 1 true (cs:=[Iz 0,AV.slc 3 0 3 (([] : List AaA).length) false,AV.lst true true (List.map (AV.int .i64) ([] : List Int))]) (by simp [F11]) (by simp) ?_;refine RM h0 [(0,3),(1,4),(2,2)] [(4,AV.ptr 2 0),(5,Iz 4)] [(0,.grow (AaJ (List.map AaA.av ([] : List AaA)))),(1,Gi ([] : List Int)),(2,AbK )] 3 (by simp [F11]) (by simp [F11]) ?_;simp only [Option.some.injEq,Prod.mk.injEq] at hF;obtain ⟨e0,e1,e2,e3⟩:=hF;subst e0 e1 e2 e3;refine AW.ret (hQ _ _ _ ?_ (AaI ?_)).1
         ·simp [Try.f35,F11]
         ·simp [F11]
        ·replace hF:=Aah h12 hF;have h12_:=h12;try simp at h12_
         have F12:=A3 F10 h12 h12_;refine CF (by simp [F12] <;> omega) ?_;refine SQ [] [none,none,none,none,some (71,false),some (71,false),some (71,false),none,none] fun _ _ g r=>?_;by_cases h13 : v5<1
         ·replace hF:=Aag h13 hF;have h13_:=h13;try simp at h13_
          have F13:=A3 F12 h13 h13_;try simp [F13]
          and_intros <;> first | exact GK g | apply r | omega | (simp [maxLen,F13] <;> omega)
          refine WK [(2,AV.ptr 0 0),(3,AV.ptr 1 0),(4,AV.ptr 2 0),(6,Iz v11),(7,AV.bool v12),(67,AV.bool true)] [(0,.cells [Iz v0,Q0 v1,Lz v2]),(1,.cells [Iz v3,Iz v4,Iz v5]),(2,Aar )] 3 (by simp [F13]) (by simp [F13]) ?_;refine CT (by simp [F13]) ?_;refine SQ [] [none,none,none] fun _ _ g r=>?_;try simp [F13]
          and_intros <;> first | exact GK g | apply r | omega | (simp [maxLen,F13] <;> omega)
          refine WK [(4,AV.ptr 2 0),(5,Iz 2)] [(2,Aar )] 3 (by simp [F13]) (by simp [F13]) ?_;refine AW.ownC 2 1 3 true (cs:=[Iz 0,AV.lst true true (List.map AaA.av ([] : List AaA)),AV.lst true true (List.map (AV.int .i64) ([] : List Int))]) (by simp [F13]) (by simp) ?_;refine AW.ownC 2 2 1 true (cs:=[Iz 0,AV.slc 3 0 3 (([] : List AaA).length) false,AV.lst true true (List.map (AV.int .i64) ([] : List Int))]) (by simp [F13]) (by simp) ?_;refine RM h0 [(0,3),(1,4),(2,2)] [(4,AV.ptr 2 0),(5,Iz 2)] [(0,.grow (AaJ (List.map AaA.av ([] : List AaA)))),(1,Gi ([] : List Int)),(2,AbK )] 3 (by simp [F13]) (by simp [F13]) ?_;simp only [Option.some.injEq,Prod.mk.injEq] at hF;obtain ⟨e0,e1,e2,e3⟩:=hF;subst e0 e1 e2 e3;refine AW.ret (hQ _ _ _ ?_ (AaI ?_)).1
          ·simp [Try.f35,F13]
          ·simp [F13]
         ·replace hF:=Aah h13 hF;have h13_:=h13;try simp at h13_
          have F14:=A3 F12 h13 h13_;try simp [F14]
          and_intros <;> first | exact GK g | apply r | omega | (simp [maxLen,F14] <;> omega)
          refine WK [(2,AV.ptr 0 0),(3,AV.ptr 1 0),(4,AV.ptr 2 0),(6,Iz v11),(7,AV.bool v12),(67,AV.bool (decide (3<v5)))] [(0,.cells [Iz v0,Q0 v1,Lz v2]),(1,.cells [Iz v3,Iz v4,Iz v5]),(2,Aar )] 3 (by simp [F14]) (by simp [F14]) ?_;by_cases h14 : 3<v5
          ·replace hF:=Aag h14 hF;have h14_:=h14;try simp at h14_
           have F15:=A3 F14 h14 h14_;refine CT (by simp [F15] <;> omega) ?_;refine SQ [] [none,none,none] fun _ _ g r=>?_;try simp [F15]
           and_intros <;> first | exact GK g | apply r | omega | (simp [maxLen,F15] <;> omega)
           refine WK [(4,AV.ptr 2 0),(5,Iz 2)] [(2,Aar )] 3 (by simp [F15]) (by simp [F15]) ?_;refine AW.ownC 2 1 3 true (cs:=[Iz 0,AV.lst true true (List.map AaA.av ([] : List AaA)),AV.lst true true (List.map (AV.int .i64) ([] : List Int))]) (by simp [F15]) (by simp) ?_;refine AW.ownC 2 2 1 true (cs:=[Iz 0,AV.slc 3 0 3 (([] : List AaA).length) false,AV.lst true true (List.map (AV.int .i64) ([] : List Int))]) (by simp [F15]) (by simp) ?_;refine RM h0 [(0,3),(1,4),(2,2)] [(4,AV.ptr 2 0),(5,Iz 2)] [(0,.grow (AaJ (List.map AaA.av ([] : List AaA)))),(1,Gi ([] : List Int)),(2,AbK )] 3 (by simp [F15]) (by simp [F15]) ?_;simp only [Option.some.injEq,Prod.mk.injEq] at hF;obtain ⟨e0,e1,e2,e3⟩:=hF;subst e0 e1 e2 e3;refine AW.ret (hQ _ _ _ ?_ (AaI ?_)).1
           ·simp [Try.f35,F15]
           ·simp [F15]
          ·replace hF:=Aah h14 hF;have h14_:=h14;try simp at h14_
           have F16:=A3 F14 h14 h14_;refine CF (by simp [F16] <;> omega) ?_;refine SQ [] [none,none] fun _ _ g r=>?_;try simp [F16]
           and_intros <;> first | exact GK g | apply r | omega | (simp [maxLen,F16] <;> omega)
           refine WK [(2,AV.ptr 0 0),(3,AV.ptr 1 0),(4,AV.ptr 2 0),(6,Iz v11),(77,AV.bool v12)] [(0,.cells [Iz v0,Q0 v1,Lz v2]),(1,.cells [Iz v3,Iz v4,Iz v5]),(2,Aar )] 3 (by simp [F16]) (by simp [F16]) ?_;by_cases h15 : v12=true
           ·replace hF:=Aag h15 hF;have h15_:=h15;try simp at h15_
            have F17:=A3 F16 h15 h15_;refine CT (by simp [F17] <;> omega) ?_;refine SQ [] [none,none,none] fun _ _ g r=>?_;try simp [F17]
            and_intros <;> first | exact GK g | apply r | omega | (simp [maxLen,F17] <;> omega)
            refine WK [(4,AV.ptr 2 0),(5,Iz 19)] [(2,Aar )] 3 (by simp [F17]) (by simp [F17]) ?_;refine AW.ownC 2 1 3 true (cs:=[Iz 0,AV.lst true true (List.map AaA.av ([] : List AaA)),AV.lst true true (List.map (AV.int .i64) ([] : List Int))]) (by simp [F17]) (by simp) ?_;refine AW.ownC 2 2 1 true (cs:=[Iz 0,AV.slc 3 0 3 (([] : List AaA).length) false,AV.lst true true (List.map (AV.int .i64) ([] : List Int))]) (by simp [F17]) (by simp) ?_;refine RM h0 [(0,3),(1,4),(2,2)] [(4,AV.ptr 2 0),(5,Iz 19)] [(0,.grow (AaJ (List.map AaA.av ([] : List AaA)))),(1,Gi ([] : List Int)),(2,AbK )] 3 (by simp [F17]) (by simp [F17]) ?_;simp only [Option.some.injEq,Prod.mk.injEq] at hF;obtain ⟨e0,e1,e2,e3⟩:=hF;subst e0 e1 e2 e3;refine AW.ret (hQ _ _ _ ?_ (AaI ?_)).1
            ·simp [Try.f35,F17]
            ·simp [F17]
           ·replace hF:=Aah h15 hF;have h15_:=h15;try simp at h15_
            have F18:=A3 F16 h15 h15_;refine CF (by simp [F18] <;> omega) ?_;refine SQ [] [none,none,none,none,none] fun _ _ g r=>?_;try simp [F18]
            and_intros <;> first | exact GK g | apply r | omega | (simp [maxLen,F18] <;> omega)
            refine WK [(2,AV.ptr 0 0),(3,AV.ptr 1 0),(4,AV.ptr 2 0),(6,Iz v11),(80,AV.bool ((v1.length : Int)==500))] [(0,.cells [Iz v0,Q0 v1,Lz v2]),(1,.cells [Iz v3,Iz v4,Iz v5]),(2,Aar )] 3 (by simp [F18]) (by simp [F18]) ?_;by_cases h16 : (v1.length : Int)=500
            ·replace hF:=Aag h16 hF;have h16q : (v1.length : Int)=500:=h16;have h16_:=Abm h16q;have h16__:=Abl h16q;have F19:=A4 F18 h16_ h16__ h16q;refine CT (by simp [F19] <;> omega) ?_;refine SQ [] [none,none,none] fun _ _ g r=>?_;try simp [F19]
             and_intros <;> first | exact GK g | apply r | omega | (simp [maxLen,F19] <;> omega)
             refine WK [(4,AV.ptr 2 0),(5,Iz 3)] [(2,Aar )] 3 (by simp [F19]) (by simp [F19]) ?_;refine AW.ownC 2 1 3 true (cs:=[Iz 0,AV.lst true true (List.map AaA.av ([] : List AaA)),AV.lst true true (List.map (AV.int .i64) ([] : List Int))]) (by simp [F19]) (by simp) ?_;refine AW.ownC 2 2 1 true (cs:=[Iz 0,AV.slc 3 0 3 (([] : List AaA).length) false,AV.lst true true (List.map (AV.int .i64) ([] : List Int))]) (by simp [F19]) (by simp) ?_;refine RM h0 [(0,3),(1,4),(2,2)] [(4,AV.ptr 2 0),(5,Iz 3)] [(0,.grow (AaJ (List.map AaA.av ([] : List AaA)))),(1,Gi ([] : List Int)),(2,AbK )] 3 (by simp [F19]) (by simp [F19]) ?_;simp only [Option.some.injEq,Prod.mk.injEq] at hF;obtain ⟨e0,e1,e2,e3⟩:=hF;subst e0 e1 e2 e3;refine AW.ret (hQ _ _ _ ?_ (AaI ?_)).1
             ·simp [Try.f35,F19]
             ·simp [F19]
            ·replace hF:=Aah h16 hF;have h16_:=Abg h16;have h16__:=Abi h16;have F20:=A4 F18 h16 h16_ h16__;refine CF (by simp [F20] <;> omega) ?_;refine AW.skip ?_;refine hK64 _ _ _ ?_;refine SQ [] [none,none,none,none] fun _ _ g r=>?_;try simp [F20]
             and_intros
             try any_goals first | omega | (simp [maxLen,F20] <;> omega)
             obtain ⟨v15,v16,v17,h17,hF⟩:=AhH hF;refine AC (AhN k _ _ _ _ _ _ h17) (.cons (.same (by simp [F20])) .nil) ?_;try simp [F20]
             and_intros <;> first | exact GK g | apply r | omega | (simp [maxLen,F20] <;> omega)
             refine WK [(2,AV.ptr 0 0),(3,AV.ptr 1 0),(4,AV.ptr 2 0),(6,Iz v11),(8,AV.ptr 5 0)] [(0,.cells [Iz v0,Q0 v1,Lz v2]),(1,.cells [Iz v3,Iz v4,Iz v5]),(2,Aar ),(3,.grow (AaJ (List.map AaA.av v16))),(4,Gi v17),(5,.cells [Iz v15,AV.slc 3 0 3 v16.length false,AV.slc 4 0 1 v17.length false])] 6 (by simp [F20]) (by simp [F20]) ?_;refine SQ [92] [none,none,none,none,none,none,none,none,none,none,none,none,none,none,none] fun _ _ g r=>?_;obtain ⟨⟨h18,h19⟩,hF⟩:=Aab hF;have h18_:=h18;try simp at h18_
             have h19_:=h19;try simp at h19_
             obtain ⟨h20,hF⟩:=Aab hF;have h20_:=h20;try simp at h20_
             obtain ⟨h21,hF⟩:=Aab hF;have h21_:=h21;try simp at h21_
             obtain ⟨⟨h22,h23⟩,hF⟩:=Aab hF;have h22_:=h22;try simp at h22_
             have h23_:=h23;try simp at h23_
             obtain ⟨h24,hF⟩:=Aab hF;have h24_:=h24;try simp at h24_
             have F21:=A9 F20 h18 h19 h18_ h19_ h20 h21 h22 (A4 h23 h22_ h23_ h24);try simp [F21]
             and_intros <;> first | exact GK g | apply r | omega | (simp [maxLen,F21] <;> omega)
             refine WK [(4,AV.ptr 2 0),(8,AV.ptr 5 0)] [(2,Aar ),(4,Gi v17),(5,.cells [Iz v15,AV.slc 8 0 3 ((((v1.take (v11).toNat)++([(AaA.mk v3 v4 v5)] : List AaA))++(v1.drop (v11).toNat)).length) false,AV.slc 4 0 1 v17.length false]),(8,.grow (AaJ (List.map AaA.av (((v1.take (v11).toNat)++([(AaA.mk v3 v4 v5)] : List AaA))++(v1.drop (v11).toNat)))))] 9 (by simp [F21]) (by simp [F21] <;> omega) ?_;refine SQ [] [none,none,none] fun _ _ g r=>?_;try simp [F21]
             and_intros <;> first | exact GK g | apply r | omega | (simp [maxLen,F21] <;> omega)
             refine RM h0 [(0,8),(1,4),(2,2)] [(4,AV.ptr 2 0),(5,Iz 0)] [(0,.grow (AaJ (List.map AaA.av (((v1.take (v11).toNat)++([(AaA.mk v3 v4 v5)] : List AaA))++(v1.drop (v11).toNat))))),(1,Gi v17),(2,.cells [Iz v15,AV.slc 0 0 3 ((((v1.take (v11).toNat)++([(AaA.mk v3 v4 v5)] : List AaA))++(v1.drop (v11).toNat)).length) false,AV.slc 1 0 1 v17.length false])] 3 (by simp [F21]) (by simp [F21] <;> omega) ?_;simp only [Option.some.injEq,Prod.mk.injEq] at hF;obtain ⟨e0,e1,e2,e3⟩:=hF;subst e0 e1 e2 e3;refine AW.ret (hQ _ _ _ ?_ (AaI ?_)).1
             ·simp [Try.f35,F21]
             ·simp [F21]
abbrev AbJ  : Aat := .cells [Iz 0,AV.slc 2 0 3 (([] : List AaA).length) false,AV.slc 3 0 1 (([] : List Int).length) false]
abbrev AbM  : Aat := .cells [Iz 0,AV.lst true true (List.map AaA.av ([] : List AaA)),AV.lst true true (List.map (AV.int .i64) ([] : List Int))]
theorem AfM (k : Nat) (v0 : (List Int)) (v1 : Int) (v2 : Int) (v3 : (List AaA)) (v4 : (List Int)) (v5 : Int) (hF : AaY k v0 v1=some (v2,v3,v4,v5)) :
 AbF Try.prog 12 [AV.ptr 0 0] [.cells [AV.lst false false (List.map (AV.int .i64) v0),AV.int .i64 v1]] (AV.agg [AV.int .i64 v2,AV.slc 1 0 3 v3.length false,AV.slc 2 0 1 v4.length false]) [some (.cells [AV.lst false false (List.map (AV.int .i64) v0),AV.int .i64 v5]),some (.grow (AaJ (List.map AaA.av v3))),some (Gi v4)]:=by
 unfold AaY at hF;refine EN Try.func12 ?_;intro c0 w0 Q h0 hQ
 refine WK [(0,AV.ptr 0 0)] [(0,.cells [Lz v0,Iz v1])] 1 (by simp) (by simp) ?_;refine SQ [] [none] fun _ _ g r=>?_;try simp
 and_intros <;> first | exact GK g | apply r | omega | (simp [maxLen] <;> omega)
 refine WK [(0,AV.ptr 0 0),(2,AV.ptr 1 0)] [(0,.cells [Lz v0,Iz v1]),(1,AbM )] 2 (by simp) (by simp) ?_;refine SQ [] [none,none,none,none,none,none] fun _ _ g r=>?_;try simp
 and_intros
 try any_goals first | omega | (simp [maxLen] <;> omega)
 obtain ⟨v6,v7,h1,hF⟩:=Abd hF;refine Aa9 (AbU k _ _ _ _ _ h1) (by simp) [0] [] [0] rfl (.cons (.same (by simp)) (.cons (.same (by simp)) .nil)) (by simp) (by decide) (by simp) (by simp) (.inl rfl) (by simp) (by simp) ?_;try simp
 and_intros <;> first | exact GK g | apply r | omega | (simp [maxLen] <;> omega)
 refine WK [(0,AV.ptr 0 0),(2,AV.ptr 1 0),(3,AV.ptr 2 0)] [(0,.cells [Lz v0,Iz v7]),(1,AbM ),(2,.cells [Iz (IntKind.wrap .i64 (2+v6)),AV.lst true true (List.map AaA.av ([] : List AaA)),AV.lst true true (List.map (AV.int .i64) ([] : List Int))])] 3 (by simp) (by simp) ?_;refine AW.midF (α:=Int) (fun v8=>AaY.J1 k v0 v7 v8=some (v2,v3,v4,v5)) (fun v8=>[(0,AV.ptr 0 0),(2,AV.ptr 1 0),(3,AV.ptr 2 0)]) (fun v8=>[(0,.cells [Lz v0,Iz v7]),(1,AbM ),(2,.cells [Iz v8,AV.lst true true (List.map AaA.av ([] : List AaA)),AV.lst true true (List.map (AV.int .i64) ([] : List Int))])]) 3 (fun K210 hK210=>?_) ?_
 ·refine SQ [] [none,none,none,none,none,none] fun _ _ g r=>?_;try simp
  and_intros <;> first | exact GK g | apply r | omega | (simp [maxLen] <;> omega)
  refine WK [(0,AV.ptr 0 0),(2,AV.ptr 1 0),(3,AV.ptr 2 0),(16,AV.bool ((v0.length : Int)==0))] [(0,.cells [Lz v0,Iz v7]),(1,AbM ),(2,.cells [Iz (IntKind.wrap .i64 (2+v6)),AV.lst true true (List.map AaA.av ([] : List AaA)),AV.lst true true (List.map (AV.int .i64) ([] : List Int))])] 3 (by simp) (by simp) ?_;by_cases h12 : (v0.length : Int)=0
  ·replace hF:=Aag h12 hF;have h12q : (v0.length : Int)=0:=h12;have h12_:=Abm h12q;have h12__:=Abl h12q;have F1:=A3 h12_ h12__ h12q;refine CT (by simp [F1] <;> omega) ?_;refine RG [] [none,none] fun _ _ g r=>?_;try simp [F1]
   and_intros <;> first | exact GK g | apply r | omega | (simp [maxLen,F1] <;> omega)
   refine hK210 _ _ _ ?_;exact JN (4) hF (by simp [F1]) (by simp [F1])
  ·replace hF:=Aah h12 hF;have h12_:=Abg h12;have h12__:=Abi h12;have F2:=A3 h12 h12_ h12__;refine CF (by simp [F2] <;> omega) ?_;refine AW.skip ?_;refine hK210 _ _ _ ?_;exact JN (IntKind.wrap .i64 (2+v6)) hF (by simp [F2]) (by simp [F2])
 ·rintro v8 hF
  try dsimp only at hF
  unfold AaY.J1 at hF;refine AW.midF (α:=(Int×(List Int))) (fun (v9,v10)=>AaY.J2 k v0 v8 v9 v10=some (v2,v3,v4,v5)) (fun (v9,v10)=>[(0,AV.ptr 0 0),(2,AV.ptr 1 0),(3,AV.ptr 2 0)]) (fun (v9,v10)=>[(0,.cells [Lz v0,Iz v9]),(1,AbM ),(2,.cells [Iz v8,AV.lst true true (List.map AaA.av ([] : List AaA)),AV.slc 3 0 1 v10.length false]),(3,Gi v10)]) 4 (fun K207 hK207=>?_) ?_
  ·refine SQ [] [none,none] fun _ _ g r=>?_;try simp
   and_intros
   try any_goals first | omega | (simp [maxLen] <;> omega)
   obtain ⟨v32,v33,h9,hF⟩:=Abd hF;refine Aa9 (Agn k _ _ _ _ _ h9) (by simp) [0] [] [0] rfl (.cons (.same (by simp)) (.cons (.same (by simp)) .nil)) (by simp) (by decide) (by simp) (by simp) (.inl rfl) (by simp) (by simp) ?_;try simp
   and_intros <;> first | exact GK g | apply r | omega | (simp [maxLen] <;> omega)
   refine WK [(0,AV.ptr 0 0),(2,AV.ptr 1 0),(3,AV.ptr 2 0),(19,AV.bool v32)] [(0,.cells [Lz v0,Iz v33]),(1,AbM ),(2,.cells [Iz v8,AV.lst true true (List.map AaA.av ([] : List AaA)),AV.lst true true (List.map (AV.int .i64) ([] : List Int))])] 3 (by simp) (by simp) ?_;by_cases h10 : v32=true
   ·replace hF:=Aag h10 hF;have h10_:=h10;try simp at h10_
    refine CT (by simp [h10,h10_] <;> omega) ?_;refine RG [24] [none,none,none,none,none,none,none] fun _ _ g r=>?_;try simp [h10,h10_]
    and_intros
    try any_goals first | omega | (simp [h10,h10_,maxLen] <;> omega)
    obtain ⟨v34,v35,h11,hF⟩:=Abd hF;refine Aa9 (AbU k _ _ _ _ _ h11) (by simp) [0] [] [0] rfl (.cons (.same (by simp [h10,h10_])) (.cons (.same (by simp [h10,h10_])) .nil)) (by simp [h10,h10_]) (by decide) (by simp) (by simp) (.inl rfl) (by simp) (by simp) ?_;try simp [h10,h10_]
    and_intros <;> first | exact GK g | apply r | omega | (simp [h10,h10_,maxLen] <;> omega)
    refine hK207 _ _ _ ?_;refine Can.weak [(0,AV.ptr 0 0),(2,AV.ptr 1 0),(3,AV.ptr 2 0)] [(0,.cells [Lz v0,Iz v35]),(1,AbM ),(2,.cells [Iz v8,AV.lst true true (List.map AaA.av ([] : List AaA)),AV.slc 3 0 1 (([v34] : List Int).length) true]),(3,Ci ([v34] : List Int))] 4 (by simp [h10,h10_]) (by simp [h10,h10_]) (by simp) ?_;refine Can.flg [] [(2,.cells [Iz v8,AV.lst true true (List.map AaA.av ([] : List AaA)),AV.slc 3 0 1 (([v34] : List Int).length) false]),(3,Gi ([v34] : List Int))] trivial ⟨⟨Aat.cells [Iz v8,AV.lst true true (List.map AaA.av ([] : List AaA)),AV.slc 3 0 1 (([v34] : List Int).length) true],by simp [h10,h10_],(.mk (.cons (.same _) (.cons (.same _) (.cons .slc .nil))))⟩,⟨Ci ([v34] : List Int),by simp [h10,h10_],(.gr (by simp [h10,h10_]))⟩,trivial⟩ (by simp) ?_;exact JN ((v35,([v34] : List Int))) hF (by simp [h10,h10_]) (by simp [h10,h10_])
   ·replace hF:=Aah h10 hF;have h10_:=h10;try simp at h10_
    refine CF (by simp [h10,h10_] <;> omega) ?_;refine AW.skip ?_;refine hK207 _ _ _ ?_;refine Can.ownC 2 2 1 true (cs:=[Iz v8,AV.lst true true (List.map AaA.av ([] : List AaA)),AV.lst true true (List.map (AV.int .i64) ([] : List Int))]) (by simp [h10,h10_]) (by simp) ?_;exact JN ((v33,([] : List Int))) hF (by simp [h10,h10_]) (by simp [h10,h10_])
  ·rintro ⟨v9,v10⟩ hF
   try dsimp only at hF
   unfold AaY.J2 at hF;refine AW.seq fun K159 hK159=>?_;refine SQ [] [none,none,none] fun _ _ g r=>?_;try simp
   and_intros
   try any_goals first | omega | (simp [maxLen] <;> omega)
   obtain ⟨v11,v12,h2,hF⟩:=Abd hF;refine Aa9 (AbU k _ _ _ _ _ h2) (by simp) [0] [] [0] rfl (.cons (.same (by simp)) (.cons (.same (by simp)) .nil)) (by simp) (by decide) (by simp) (by simp) (.inl rfl) (by simp) (by simp) ?_;try simp
   and_intros <;> first | exact GK g | apply r | omega | (simp [maxLen] <;> omega)
   refine WK [(0,AV.ptr 0 0),(2,AV.ptr 1 0),(3,AV.ptr 2 0),(4,Iz v11)] [(0,.cells [Lz v0,Iz v12]),(1,AbM ),(2,.cells [Iz v8,AV.lst true true (List.map AaA.av ([] : List AaA)),AV.slc 3 0 1 v10.length false]),(3,Gi v10)] 4 (by simp) (by simp) ?_;refine AW.block ?_;refine AW.ownC 1 1 3 true (cs:=[Iz 0,AV.lst true true (List.map AaA.av ([] : List AaA)),AV.lst true true (List.map (AV.int .i64) ([] : List Int))]) (by simp) (by simp) ?_;refine AW.ownC 1 2 1 true (cs:=[Iz 0,AV.slc 4 0 3 (([] : List AaA).length) false,AV.lst true true (List.map (AV.int .i64) ([] : List Int))]) (by simp) (by simp) ?_;refine AW.ownC 2 1 3 true (cs:=[Iz v8,AV.lst true true (List.map AaA.av ([] : List AaA)),AV.slc 3 0 1 v10.length false]) (by simp) (by simp) ?_;refine AW.rnm (m:=1) h0 [(0,0),(1,1),(2,4),(3,5),(4,2),(5,6),(6,3)] [(0,AV.ptr 0 0),(2,AV.ptr 1 0),(3,AV.ptr 4 0),(4,Iz v11)] [(0,.cells [Lz v0,Iz v12]),(1,AbJ ),(2,.grow (AaJ (List.map AaA.av ([] : List AaA)))),(3,Gi ([] : List Int)),(4,.cells [Iz v8,AV.slc 5 0 3 (([] : List AaA).length) false,AV.slc 6 0 1 v10.length false]),(5,.grow (AaJ (List.map AaA.av ([] : List AaA)))),(6,Gi v10)] 7 (by decide) (by decide) (by decide) rfl (by simp) (by simp) ?_;refine AW.loopF (α:=(Int×Int×Int×(List AaA)×(List Int))) (fun n (v13,v14,v15,v16,v17)=>AaY.L3 k v0 n v13 v14 v15 v16 v17=some (v2,v3,v4,v5)) (fun (v13,v14,v15,v16,v17)=>[(0,AV.ptr 0 0),(2,AV.ptr 1 0),(3,AV.ptr 4 0),(4,Iz v13)]) (fun (v13,v14,v15,v16,v17)=>[(0,.cells [Lz v0,Iz v14]),(1,AbJ ),(2,.grow (AaJ (List.map AaA.av ([] : List AaA)))),(3,Gi ([] : List Int)),(4,.cells [Iz v15,AV.slc 5 0 3 v16.length false,AV.slc 6 0 1 v17.length false]),(5,.grow (AaJ (List.map AaA.av v16))),(6,Gi v17)]) 7 k ((v11,v12,v8,([] : List AaA),v10)) hF (by simp) (by simp) (by simp) ?_;rintro (_|n3) ⟨v13,v14,v15,v16,v17⟩ hF K194 hK194
   ·try dsimp only at hF
    rw [AaY.L3] at hF; cases hF
   try dsimp only at hF
   rw [AaY.L3] at hF;refine AW.seq fun K196 hK196=>?_;refine SQ [] [none,none] fun _ _ g r=>?_;try simp
   and_intros <;> first | exact GK g | apply r | omega | (simp [maxLen] <;> omega)
   refine WK [(0,AV.ptr 0 0),(2,AV.ptr 1 0),(3,AV.ptr 4 0),(4,Iz v13),(29,AV.bool (decide (0<v13)))] [(0,.cells [Lz v0,Iz v14]),(1,AbJ ),(2,.grow (AaJ (List.map AaA.av ([] : List AaA)))),(3,Gi ([] : List Int)),(4,.cells [Iz v15,AV.slc 5 0 3 v16.length false,AV.slc 6 0 1 v17.length false]),(5,.grow (AaJ (List.map AaA.av v16))),(6,Gi v17)] 7 (by simp) (by simp) ?_;by_cases h3 : 0<v13
   ·replace hF:=Aag h3 hF;have h3_:=h3;try simp at h3_
    refine CT (by simp [h3,h3_] <;> omega) ?_;refine AW.skip ?_;refine hK196 _ _ _ ?_;refine AW.midF (α:=(Int×Int×(List AaA)×(List Int))) (fun (v18,v19,v20,v21)=>AaY.J4 k v13 (fun v13_ v14_ v15_ v16_ v17_=>AaY.L3 k v0 n3 v13_ v14_ v15_ v16_ v17_) v18 v19 v20 v21=some (v2,v3,v4,v5)) (fun (v18,v19,v20,v21)=>[(0,AV.ptr 0 0),(2,AV.ptr 1 0),(3,AV.ptr 4 0),(4,Iz v13)]) (fun (v18,v19,v20,v21)=>[(0,.cells [Lz v0,Iz v18]),(1,AbJ ),(2,.grow (AaJ (List.map AaA.av ([] : List AaA)))),(3,Gi ([] : List Int)),(4,.cells [Iz v19,AV.slc 5 0 3 v20.length false,AV.slc 6 0 1 v21.length false]),(5,.grow (AaJ (List.map AaA.av v20))),(6,Gi v21)]) 7 (fun K202 hK202=>?_) ?_
    ·refine AW.block ?_;refine SQ [] [none,none,none,none,none,none,none,none,none,none,none,none,none,none,none,none,none,none,none,none] fun _ _ g r=>?_;try simp [h3,h3_]
     and_intros
     try any_goals first | omega | (simp [h3,h3_,maxLen] <;> omega)
     obtain ⟨v22,v23,h4,hF⟩:=Abd hF;refine Aa9 (AbU k _ _ _ _ _ h4) (by simp) [0] [] [0] rfl (.cons (.same (by simp [h3,h3_])) (.cons (.same (by simp [h3,h3_])) .nil)) (by simp [h3,h3_]) (by decide) (by simp) (by simp) (.inl rfl) (by simp) (by simp) ?_;try simp [h3,h3_]
     and_intros
     try any_goals first | omega | (simp [h3,h3_,maxLen] <;> omega)
     obtain ⟨v24,v25,h5,hF⟩:=Abd hF;refine Aa9 (AbU k _ _ _ _ _ h5) (by simp) [0] [] [0] rfl (.cons (.same (by simp [h3,h3_])) (.cons (.same (by simp [h3,h3_])) .nil)) (by simp [h3,h3_]) (by decide) (by simp) (by simp) (.inl rfl) (by simp) (by simp) ?_;try simp [h3,h3_]
     and_intros
     try any_goals first | omega | (simp [h3,h3_,maxLen] <;> omega)
     obtain ⟨v26,v27,h6,hF⟩:=Abd hF;refine Aa9 (AbU k _ _ _ _ _ h6) (by simp) [0] [] [0] rfl (.cons (.same (by simp [h3,h3_])) (.cons (.same (by simp [h3,h3_])) .nil)) (by simp [h3,h3_]) (by decide) (by simp) (by simp) (.inl rfl) (by simp) (by simp) ?_;try simp [h3,h3_]
     and_intros
     try any_goals first | omega | (simp [h3,h3_,maxLen] <;> omega)
     obtain ⟨v28,v29,v30,v31,h7,hF⟩:=Ajf hF;refine Aa9 (AhM k _ _ _ _ _ _ _ _ _ _ h7) (by simp) [] [5,6] [] rfl (.cons (.agg (.cons (.same (by simp [h3,h3_])) (.cons (Coe.l (o := .grow (AaJ (List.map AaA.av v16))) (by simp [h3,h3_]) rfl (by simp [h3,h3_]) (by simp [Acz]) (by simp [h3,h3_]) (by simp [h3,h3_])) (.cons (Coe.l (o:=Gi v17) (by simp [h3,h3_]) rfl (by simp [h3,h3_]) (by simp [Acz]) (by simp [h3,h3_]) (by simp [h3,h3_])) .nil)))) (.cons (.same (by simp [h3,h3_])) .nil)) (by simp [h3,h3_]) (by decide) (by simp) (by simp) (.inr ⟨by simp,by simp⟩) (by simp) (by simp) ?_;try simp [h3,h3_]
     and_intros <;> first | exact GK g | apply r | omega | (simp [h3,h3_,maxLen] <;> omega)
     refine WK [(0,AV.ptr 0 0),(2,AV.ptr 1 0),(3,AV.ptr 4 0),(4,Iz v13),(5,AV.ptr 9 0),(6,Iz v31)] [(0,.cells [Lz v0,Iz v27]),(1,AbJ ),(2,.grow (AaJ (List.map AaA.av ([] : List AaA)))),(3,Gi ([] : List Int)),(4,.cells [Iz v15,AV.slc 5 0 3 v16.length false,AV.slc 6 0 1 v17.length false]),(5,.grow (AaJ (List.map AaA.av v16))),(6,Gi v17),(7,.grow (AaJ (List.map AaA.av v29))),(8,Gi v30),(9,.cells [Iz v28,AV.slc 7 0 3 v29.length false,AV.slc 8 0 1 v30.length false])] 10 (by simp [h3,h3_]) (by simp [h3,h3_]) ?_;refine SQ [] [none,none] fun _ _ g r=>?_;try simp [h3,h3_]
     and_intros <;> first | exact GK g | apply r | omega | (simp [h3,h3_,maxLen] <;> omega)
     refine WK [(0,AV.ptr 0 0),(2,AV.ptr 1 0),(3,AV.ptr 4 0),(4,Iz v13),(5,AV.ptr 9 0),(50,AV.bool (v31==0))] [(0,.cells [Lz v0,Iz v27]),(1,AbJ ),(2,.grow (AaJ (List.map AaA.av ([] : List AaA)))),(3,Gi ([] : List Int)),(4,.cells [Iz v15,AV.slc 5 0 3 v16.length false,AV.slc 6 0 1 v17.length false]),(5,.grow (AaJ (List.map AaA.av v16))),(6,Gi v17),(7,.grow (AaJ (List.map AaA.av v29))),(8,Gi v30),(9,.cells [Iz v28,AV.slc 7 0 3 v29.length false,AV.slc 8 0 1 v30.length false])] 10 (by simp [h3,h3_]) (by simp [h3,h3_]) ?_;by_cases h8 : v31=0
     ·replace hF:=Aag h8 hF;have h8q : v31=0:=h8;have h8_:=Abm h8q;have h8__:=Abl h8q;have F3:=A5 h3 h3_ h8_ h8__ h8q;refine CT (by simp [F3] <;> omega) ?_;refine RG [] [none,none] fun _ _ g r=>?_;try simp [F3]
      and_intros <;> first | exact GK g | apply r | omega | (simp [maxLen,F3] <;> omega)
      refine hK202 _ _ _ ?_;refine Can.weak [(0,AV.ptr 0 0),(2,AV.ptr 1 0),(3,AV.ptr 4 0),(4,Iz v13)] [(0,.cells [Lz v0,Iz v27]),(1,AbJ ),(2,.grow (AaJ (List.map AaA.av ([] : List AaA)))),(3,Gi ([] : List Int)),(4,.cells [Iz v28,AV.slc 7 0 3 v29.length false,AV.slc 8 0 1 v30.length false]),(7,.grow (AaJ (List.map AaA.av v29))),(8,Gi v30)] 10 (by simp [F3]) (by simp [F3]) (by simp) ?_;refine Can.ren (m:=1) h0 [(0,0),(1,1),(2,2),(3,3),(4,4),(5,7),(6,8)] [(0,AV.ptr 0 0),(2,AV.ptr 1 0),(3,AV.ptr 4 0),(4,Iz v13)] [(0,.cells [Lz v0,Iz v27]),(1,AbJ ),(2,.grow (AaJ (List.map AaA.av ([] : List AaA)))),(3,Gi ([] : List Int)),(4,.cells [Iz v28,AV.slc 5 0 3 v29.length false,AV.slc 6 0 1 v30.length false]),(5,.grow (AaJ (List.map AaA.av v29))),(6,Gi v30)] 7 (by decide) (by decide) (by decide) rfl (by simp [F3]) (by simp [F3]) ?_;exact JN ((v27,v28,v29,v30)) hF (by simp [F3]) (by simp [F3])
     ·replace hF:=Aah h8 hF;have h8_:=Abg h8;have h8__:=Abi h8;have F4:=A5 h3 h3_ h8 h8_ h8__;refine CF (by simp [F4] <;> omega) ?_;refine AW.skip ?_;refine hK202 _ _ _ ?_;refine Can.ren (m:=1) h0 [(0,0),(1,1),(2,2),(3,3),(4,4),(5,5),(6,6)] [(0,AV.ptr 0 0),(2,AV.ptr 1 0),(3,AV.ptr 4 0),(4,Iz v13)] [(0,.cells [Lz v0,Iz v27]),(1,AbJ ),(2,.grow (AaJ (List.map AaA.av ([] : List AaA)))),(3,Gi ([] : List Int)),(4,.cells [Iz v15,AV.slc 5 0 3 v16.length false,AV.slc 6 0 1 v17.length false]),(5,.grow (AaJ (List.map AaA.av v16))),(6,Gi v17)] 7 (by decide) (by decide) (by decide) rfl (by simp [F4]) (by simp [F4]) ?_;exact JN ((v27,v15,v16,v17)) hF (by simp [F4]) (by simp [F4])
    ·rintro ⟨v18,v19,v20,v21⟩ hF
     try dsimp only at hF
     unfold AaY.J4 at hF;refine RG [] [none,none,none] fun _ _ g r=>?_;try simp [h3,h3_]
     and_intros <;> first | exact GK g | apply r | omega | (simp [h3,h3_,maxLen] <;> omega)
     refine hK194 _ _ _ ?_;exact NX (k':=n3) ((IntKind.wrap .i64 (v13-1),v18,v19,v20,v21)) hF (by simp [h3,h3_]) (by simp [h3,h3_])
   ·replace hF:=Aah h3 hF;have h3_:=h3;try simp at h3_
    refine CF (by simp [h3,h3_] <;> omega) ?_;refine AW.exit ?_;try simp
    refine hK159 _ _ _ ?_;refine SQ [] [none,none] fun _ _ g r=>?_;try simp [h3,h3_]
    and_intros <;> first | exact GK g | apply r | omega | (simp [h3,h3_,maxLen] <;> omega)
    refine WK [(2,AV.ptr 1 0)] [(0,.cells [Lz v0,Iz v14]),(1,.cells [Iz v15,AV.slc 5 0 3 v16.length false,AV.slc 6 0 1 v17.length false]),(5,.grow (AaJ (List.map AaA.av v16))),(6,Gi v17)] 7 (by simp [h3,h3_]) (by simp [h3,h3_]) ?_;refine AW.rnm (m:=1) h0 [(0,0),(1,5),(2,6),(3,1)] [(2,AV.ptr 3 0)] [(0,.cells [Lz v0,Iz v14]),(1,.grow (AaJ (List.map AaA.av v16))),(2,Gi v17),(3,.cells [Iz v15,AV.slc 1 0 3 v16.length false,AV.slc 2 0 1 v17.length false])] 4 (by decide) (by decide) (by decide) rfl (by simp [h3,h3_]) (by simp [h3,h3_]) ?_;simp only [Option.some.injEq,Prod.mk.injEq] at hF;obtain ⟨e0,e1,e2,e3⟩:=hF;subst e0 e1 e2 e3;refine AW.ret (hQ _ _ _ ?_ (AaI ?_)).1
    ·simp [Try.f12,h3,h3_]
    ·simp [h3,h3_]
theorem Ajr (k : Nat) (v0 : Int) (v1 : (List AaA)) (v2 : (List Int)) (v3 : Int) (v4 : (List Int)) (hF : Abb k v0 v1 v2 v3=some v4) :
 AbF Try.prog 32 [AV.agg [AV.int .i64 v0,Q0 v1,AV.lst false false (List.map (AV.int .i64) v2)],AV.int .i64 v3] [] (AV.slc 0 0 1 v4.length false) [some (Gi v4)]:=by
 unfold Abb at hF;refine EN Try.func32 ?_;intro c0 w0 Q h0 hQ
 refine WK [(0,AV.agg [Iz v0,Q0 v1,Lz v2]),(1,Iz v3)] [] 0 (by simp) (by simp) ?_;refine SQ [] [none,none] fun _ _ g r=>?_;try simp
 and_intros <;> first | exact GK g | apply r | omega | (simp [maxLen] <;> omega)
 refine WK [(1,Iz v3),(2,AV.ptr 0 0)] [(0,.cells [Iz v0,Q0 v1,Lz v2])] 1 (by simp) (by simp) ?_;refine SQ [] [none] fun _ _ g r=>?_;try simp
 and_intros <;> first | exact GK g | apply r | omega | (simp [maxLen] <;> omega)
 refine WK [(1,Iz v3),(2,AV.ptr 0 0),(5,AV.lst true true (List.map (AV.int .i64) ([] : List Int)))] [(0,.cells [Iz v0,Q0 v1,Lz v2])] 1 (by simp) (by simp) ?_;refine AW.seq fun K121 hK121=>?_;refine SQ [] [none] fun _ _ g r=>?_;try simp
 and_intros <;> first | exact GK g | apply r | omega | (simp [maxLen] <;> omega)
 refine WK [(1,Iz v3),(2,AV.ptr 0 0),(5,AV.lst true true (List.map (AV.int .i64) ([] : List Int))),(6,Iz 0)] [(0,.cells [Iz v0,Q0 v1,Lz v2])] 1 (by simp) (by simp) ?_;refine AW.block ?_;refine AW.own' 5 1 true (by simp) (by decide) ?_;refine AW.loopF (α:=(Int×(List Int))) (fun n (v5,v6)=>Abb.L1 k v1 v3 n v5 v6=some v4) (fun (v5,v6)=>[(1,Iz v3),(2,AV.ptr 0 0),(5,AV.slc 1 0 1 v6.length false),(6,Iz v5)]) (fun (v5,v6)=>[(0,.cells [Iz v0,Q0 v1,Lz v2]),(1,Gi v6)]) 2 k ((0,([] : List Int))) hF (by simp) (by simp) (by simp) ?_;rintro (_|n1) ⟨v5,v6⟩ hF K150 hK150
 ·try dsimp only at hF
  rw [Abb.L1] at hF; cases hF
 try dsimp only at hF
 rw [Abb.L1] at hF;refine AW.seq fun K152 hK152=>?_;refine SQ [] [none,none,none,none,none] fun _ _ g r=>?_;try simp
 and_intros <;> first | exact GK g | apply r | omega | (simp [maxLen] <;> omega)
 refine WK [(1,Iz v3),(2,AV.ptr 0 0),(5,AV.slc 1 0 1 v6.length false),(6,Iz v5),(11,AV.bool (decide (v5<(v1.length : Int))))] [(0,.cells [Iz v0,Q0 v1,Lz v2]),(1,Gi v6)] 2 (by simp) (by simp) ?_;by_cases h1 : v5<(v1.length : Int)
 ·replace hF:=Aag h1 hF;have h1_:=h1;try simp at h1_
  refine CT (by simp [h1,h1_] <;> omega) ?_;refine AW.skip ?_;refine hK152 _ _ _ ?_;refine AW.midF (α:=(List Int)) (fun v7=>Abb.J2 k v5 (fun v5_ v6_=>Abb.L1 k v1 v3 n1 v5_ v6_) v7=some v4) (fun v7=>[(1,Iz v3),(2,AV.ptr 0 0),(5,AV.slc 1 0 1 v7.length false),(6,Iz v5)]) (fun v7=>[(0,.cells [Iz v0,Q0 v1,Lz v2]),(1,Gi v7)]) 2 (fun K157 hK157=>?_) ?_
  ·refine AW.block ?_;refine SQ [] [none,none,none,none,none,none,none,none] fun _ _ g r=>?_;obtain ⟨v8,h2,h3,h4,hF⟩:=Aam hF;have h4_:=Aa2 h4;try simp at h4_
   have h3_:=h3;try simp at h3_
   have F1:=A7 h1 h1_ h2 h3 h4 h4_ h3_;try simp [F1]
   and_intros <;> first | exact GK g | apply r | omega | (simp [maxLen,F1] <;> omega)
   refine WK [(1,Iz v3),(2,AV.ptr 0 0),(5,AV.slc 1 0 1 v6.length false),(6,Iz v5),(21,AV.bool (v8.From==v3))] [(0,.cells [Iz v0,Q0 v1,Lz v2]),(1,Gi v6)] 2 (by simp [F1]) (by simp [F1]) ?_;by_cases h5 : v8.From=v3
   ·replace hF:=Aag h5 hF;have h5q : v8.From=v3:=h5;have h5_:=Abm h5q;have h5__:=Abl h5q;refine CT (by simp [F1,h5_,h5__] <;> omega) ?_;refine RG [] [none,none,none,none,none,none,none,none,none,none] fun _ _ g r=>?_;obtain ⟨h6,hF⟩:=Aab hF;have h6_:=h6;try simp at h6_
    have F2:=A4 F1 h5_ h5__ h6;try simp [F2]
    and_intros <;> first | exact GK g | apply r | omega | (simp [maxLen,F2] <;> omega)
    refine hK157 _ _ _ ?_;refine RN h0 [(0,0),(1,2)] [(1,Iz v3),(2,AV.ptr 0 0),(5,AV.slc 1 0 1 ((v6++([v8.To] : List Int)).length) false),(6,Iz v5)] [(0,.cells [Iz v0,Q0 v1,Lz v2]),(1,Gi (v6++([v8.To] : List Int)))] 2 (by simp [F2] <;> omega) (by simp [F2]) ?_;exact JN (v6++([v8.To] : List Int)) hF (by simp [F2]) (by simp [F2])
   ·replace hF:=Aah h5 hF;have h5_:=Abg h5;have h5__:=Abi h5;have F3:=A4 F1 h5 h5_ h5__;refine CF (by simp [F3] <;> omega) ?_;refine AW.skip ?_;refine hK157 _ _ _ ?_;exact JN (v6) hF (by simp [F3]) (by simp [F3])
  ·rintro v7 hF
   try dsimp only at hF
   unfold Abb.J2 at hF;refine RG [] [none,none,none] fun _ _ g r=>?_;try simp [h1,h1_]
   and_intros <;> first | exact GK g | apply r | omega | (simp [h1,h1_,maxLen] <;> omega)
   refine hK150 _ _ _ ?_;exact NX (k':=n1) ((IntKind.wrap .i64 (v5+1),v7)) hF (by simp [h1,h1_]) (by simp [h1,h1_])
 ·replace hF:=Aah h1 hF;have h1_:=h1;try simp at h1_
  refine CF (by simp [h1,h1_] <;> omega) ?_;refine AW.exit ?_;try simp
  refine hK121 _ _ _ ?_;refine SQ [] [none,none] fun _ _ g r=>?_;try simp [h1,h1_]
  and_intros <;> first | exact GK g | apply r | omega | (simp [h1,h1_,maxLen] <;> omega)
  refine RM h0 [(0,1)] [(4,AV.slc 0 0 1 v6.length false)] [(0,Gi v6)] 1 (by simp [h1,h1_]) (by simp [h1,h1_]) ?_;simp only [Option.some.injEq] at hF;subst hF;refine AW.ret (hQ _ _ _ ?_ (AaI ?_)).1
  ·simp [Try.f32,h1,h1_]
  ·simp [h1,h1_]
theorem Ago (k : Nat) (v0 : Int) (v1 : (List AaA)) (v2 : (List Int)) (v3 : Int) (v4 : Int) (v5 : Bool) (hF : Aal k v0 v1 v2 v3 v4=some v5) :
 AbF Try.prog 33 [AV.agg [AV.int .i64 v0,Q0 v1,AV.lst false false (List.map (AV.int .i64) v2)],AV.int .i64 v3,AV.int .i64 v4] [] (AV.bool v5) []:=by
 unfold Aal at hF;refine EN Try.func33 ?_;intro c0 w0 Q h0 hQ
 refine WK [(0,AV.agg [Iz v0,Q0 v1,Lz v2]),(1,Iz v3),(2,Iz v4)] [] 0 (by simp [-List.reduceReplicate,AaR,AaS,AaK]) (by simp [-List.reduceReplicate,AaR,AaS,AaK]) ?_;refine SQ [] [none,none] fun _ _ g r=>?_;try simp [-List.reduceReplicate,AaR,AaS,AaK]
 and_intros <;> first | exact GK g | apply r | omega | (simp [-List.reduceReplicate,AaR,AaS,AaK,maxLen] <;> omega)
 refine WK [(1,Iz v3),(2,Iz v4),(3,AV.ptr 0 0)] [(0,.cells [Iz v0,Q0 v1,Lz v2])] 1 (by simp [-List.reduceReplicate,AaR,AaS,AaK]) (by simp [-List.reduceReplicate,AaR,AaS,AaK]) ?_;refine SQ [12] [none,none,none,none] fun _ _ g r=>?_;obtain ⟨h1,hF⟩:=Aab hF;obtain ⟨v6,h2,hF⟩:=Aet hF;have h2l : v6.length=(v0).toNat:=by rw [← h2]; exact List.length_replicate
 have h2m : List.replicate (v0).toNat (AV.bool false)=List.map AV.bool v6:=by rw [← h2]; exact (List.map_replicate ..).symm
 have F1:=A3 h1 h2l h2m;try simp [-List.reduceReplicate,AaR,AaS,AaK,F1]
 and_intros <;> first | exact GK g | apply r | omega | (simp [-List.reduceReplicate,AaR,AaS,AaK,maxLen,F1] <;> omega)
 refine WK [(1,Iz v3),(2,Iz v4),(3,AV.ptr 0 0),(7,AV.slc 1 0 1 v6.length true)] [(0,.cells [Iz v0,Q0 v1,Lz v2]),(1,.cells (List.map AV.bool v6))] 2 (by simp [-List.reduceReplicate,AaR,AaS,AaK,F1]) (by simp [-List.reduceReplicate,AaR,AaS,AaK,F1]) ?_;refine SQ [] [none,none,none,none] fun _ _ g r=>?_;obtain ⟨⟨h3,h4⟩,hF⟩:=Aab hF;have h4_:=AbP h4;have F2:=A4 F1 h3 h4 h4_;try simp [-List.reduceReplicate,AaR,AaS,AaK,F2]
 and_intros <;> first | exact GK g | apply r | omega | (simp [-List.reduceReplicate,AaR,AaS,AaK,maxLen,F2] <;> omega)
 refine WK [(2,Iz v4),(3,AV.ptr 0 0),(7,AV.slc 1 0 1 ((v6.set (v3).toNat true).length) true)] [(0,.cells [Iz v0,Q0 v1,Lz v2]),(1,.cells (List.map AV.bool (v6.set (v3).toNat true)))] 2 (by simp [-List.reduceReplicate,AaR,AaS,AaK,F2]) (by simp [-List.reduceReplicate,AaR,AaS,AaK,F2]) ?_;refine AW.seq fun K987 hK987=>?_;refine SQ [] [none] fun _ _ g r=>?_;try simp [-List.reduceReplicate,AaR,AaS,AaK,F2]
 and_intros <;> first | exact GK g | apply r | omega | (simp [-List.reduceReplicate,AaR,AaS,AaK,maxLen,F2] <;> omega)
 refine WK [(2,Iz v4),(3,AV.ptr 0 0),(7,AV.slc 1 0 1 ((v6.set (v3).toNat true).length) true),(8,Iz 0)] [(0,.cells [Iz v0,Q0 v1,Lz v2]),(1,.cells (List.map AV.bool (v6.set (v3).toNat true)))] 2 (by simp [-List.reduceReplicate,AaR,AaS,AaK,F2]) (by simp [-List.reduceReplicate,AaR,AaS,AaK,F2]) ?_;refine AW.block ?_;refine AW.loopF (α:=(Int×(List Bool))) (fun n (v7,v8)=>Aal.L1 k v0 v1 v4 n v7 v8=some v5) (fun (v7,v8)=>[(2,Iz v4),(3,AV.ptr 0 0),(7,AV.slc 1 0 1 v8.length true),(8,Iz v7)]) (fun (v7,v8)=>[(0,.cells [Iz v0,Q0 v1,Lz v2]),(1,.cells (List.map AV.bool v8))]) 2 k ((0,v6.set (v3).toNat true)) hF (by simp [-List.reduceReplicate,AaR,AaS,AaK,F2]) (by simp [-List.reduceReplicate,AaR,AaS,AaK,F2]) (by simp) ?_;rintro (_|n1) ⟨v7,v8⟩ hF K1232 hK1232
 ·try dsimp only at hF
  rw [Aal.L1] at hF; cases hF
 try dsimp only at hF
 rw [Aal.L1] at hF;refine AW.seq fun K1234 hK1234=>?_;refine SQ [] [none,none,none,none] fun _ _ g r=>?_;try simp [-List.reduceReplicate,AaR,AaS,AaK,F2]
 and_intros <;> first | exact GK g | apply r | omega | (simp [-List.reduceReplicate,AaR,AaS,AaK,maxLen,F2] <;> omega)
 refine WK [(2,Iz v4),(3,AV.ptr 0 0),(7,AV.slc 1 0 1 v8.length true),(8,Iz v7),(19,AV.bool (decide (v7<v0)))] [(0,.cells [Iz v0,Q0 v1,Lz v2]),(1,.cells (List.map AV.bool v8))] 2 (by simp [-List.reduceReplicate,AaR,AaS,AaK,F2]) (by simp [-List.reduceReplicate,AaR,AaS,AaK,F2]) ?_;by_cases h5 : v7<v0
 ·replace hF:=Aag h5 hF;have h5_:=h5;try simp [-List.reduceReplicate] at h5_
  have F3:=A3 F2 h5 h5_;refine CT (by simp [-List.reduceReplicate,AaR,AaS,AaK,F3] <;> omega) ?_;refine AW.skip ?_;refine hK1234 _ _ _ ?_;refine AW.seq fun K1274 hK1274=>?_;refine AW.block ?_;refine SQ [] [none] fun _ _ g r=>?_;try simp [-List.reduceReplicate,AaR,AaS,AaK,F3]
  and_intros <;> first | exact GK g | apply r | omega | (simp [-List.reduceReplicate,AaR,AaS,AaK,maxLen,F3] <;> omega)
  refine WK [(2,Iz v4),(3,AV.ptr 0 0),(7,AV.slc 1 0 1 v8.length true),(8,Iz v7),(9,Iz 0)] [(0,.cells [Iz v0,Q0 v1,Lz v2]),(1,.cells (List.map AV.bool v8))] 2 (by simp [-List.reduceReplicate,AaR,AaS,AaK,F3]) (by simp [-List.reduceReplicate,AaR,AaS,AaK,F3]) ?_;refine AW.block ?_;refine AW.loopF (α:=(Int×(List Bool))) (fun n (v9,v10)=>Aal.L2 k v1 v7 (fun v7_ v8_=>Aal.L1 k v0 v1 v4 n1 v7_ v8_) n v9 v10=some v5) (fun (v9,v10)=>[(2,Iz v4),(3,AV.ptr 0 0),(7,AV.slc 1 0 1 v10.length true),(8,Iz v7),(9,Iz v9)]) (fun (v9,v10)=>[(0,.cells [Iz v0,Q0 v1,Lz v2]),(1,.cells (List.map AV.bool v10))]) 2 k ((0,v8)) hF (by simp [-List.reduceReplicate,AaR,AaS,AaK,F3]) (by simp [-List.reduceReplicate,AaR,AaS,AaK,F3]) (by simp) ?_;rintro (_|n2) ⟨v9,v10⟩ hF K1303 hK1303
  ·try dsimp only at hF
   rw [Aal.L2] at hF; cases hF
  try dsimp only at hF
  rw [Aal.L2] at hF;refine AW.seq fun K1305 hK1305=>?_;refine SQ [] [none,none,none,none,none] fun _ _ g r=>?_;try simp [-List.reduceReplicate,AaR,AaS,AaK,F3]
  and_intros <;> first | exact GK g | apply r | omega | (simp [-List.reduceReplicate,AaR,AaS,AaK,maxLen,F3] <;> omega)
  refine WK [(2,Iz v4),(3,AV.ptr 0 0),(7,AV.slc 1 0 1 v10.length true),(8,Iz v7),(9,Iz v9),(26,AV.bool (decide (v9<(v1.length : Int))))] [(0,.cells [Iz v0,Q0 v1,Lz v2]),(1,.cells (List.map AV.bool v10))] 2 (by simp [-List.reduceReplicate,AaR,AaS,AaK,F3]) (by simp [-List.reduceReplicate,AaR,AaS,AaK,F3]) ?_;by_cases h6 : v9<(v1.length : Int)
  ·replace hF:=Aag h6 hF;have h6_:=h6;try simp [-List.reduceReplicate] at h6_
   have F4:=A3 F3 h6 h6_;refine CT (by simp [-List.reduceReplicate,AaR,AaS,AaK,F4] <;> omega) ?_;refine AW.skip ?_;refine hK1305 _ _ _ ?_;refine AW.midF (α:=(List Bool)) (fun v11=>Aal.J3 k v9 (fun v9_ v10_=>Aal.L2 k v1 v7 (fun v7_ v8_=>Aal.L1 k v0 v1 v4 n1 v7_ v8_) n2 v9_ v10_) v11=some v5) (fun v11=>[(2,Iz v4),(3,AV.ptr 0 0),(7,AV.slc 1 0 1 v11.length true),(8,Iz v7),(9,Iz v9)]) (fun v11=>[(0,.cells [Iz v0,Q0 v1,Lz v2]),(1,.cells (List.map AV.bool v11))]) 2 (fun K1310 hK1310=>?_) ?_
   ·refine AW.block ?_;refine SQ [] [none,none,none,none,none,none,none,none,none] fun _ _ g r=>?_;obtain ⟨v12,h7,h8,h9,hF⟩:=Aam hF;have h9_:=Aa2 h9;try simp [-List.reduceReplicate] at h9_
    have h8_:=h8;try simp [-List.reduceReplicate] at h8_
    obtain ⟨⟨h10,h11⟩,hF⟩:=Aab hF;have h11_:=AbP h11;obtain ⟨v13,h12,h13,h14,hF⟩:=Aam hF;have h14_:=Aa2 h14;try simp [-List.reduceReplicate] at h14_
    have h13_:=h13;try simp [-List.reduceReplicate] at h13_
    have F5:=A9 F4 h7 h8 h9 h9_ h8_ h10 h11 (A6 h11_ h12 h13 h14 h14_ h13_);try simp [-List.reduceReplicate,AaR,AaS,AaK,F5]
    and_intros <;> first | exact GK g | apply r | omega | (simp [-List.reduceReplicate,AaR,AaS,AaK,maxLen,F5] <;> omega)
    refine WK [(2,Iz v4),(3,AV.ptr 0 0),(7,AV.slc 1 0 1 v10.length true),(8,Iz v7),(9,Iz v9),(37,AV.bool v13)] [(0,.cells [Iz v0,Q0 v1,Lz v2]),(1,.cells (List.map AV.bool v10))] 2 (by simp [-List.reduceReplicate,AaR,AaS,AaK,F5]) (by simp [-List.reduceReplicate,AaR,AaS,AaK,F5]) ?_;by_cases h15 : v13=true
    ·replace hF:=Aag h15 hF;have h15_:=h15;try simp [-List.reduceReplicate] at h15_
     have F6:=A3 F5 h15 h15_;refine CT (by simp [-List.reduceReplicate,AaR,AaS,AaK,F6] <;> omega) ?_;refine RG [] [none,none,none,none,none,none,none,none,none] fun _ _ g r=>?_;obtain ⟨⟨h16,h17⟩,hF⟩:=Aab hF;have h17_:=AbP h17;have F7:=A4 F6 h16 h17 h17_;try simp [-List.reduceReplicate,AaR,AaS,AaK,F7]
     and_intros <;> first | exact GK g | apply r | omega | (simp [-List.reduceReplicate,AaR,AaS,AaK,maxLen,F7] <;> omega)
     refine hK1310 _ _ _ ?_;exact JN (v10.set (v12.To).toNat true) hF (by simp [-List.reduceReplicate,AaR,AaS,AaK,F7]) (by simp [-List.reduceReplicate,AaR,AaS,AaK,F7])
    ·replace hF:=Aah h15 hF;have h15_:=h15;try simp [-List.reduceReplicate] at h15_
     have F8:=A3 F5 h15 h15_;refine CF (by simp [-List.reduceReplicate,AaR,AaS,AaK,F8] <;> omega) ?_;refine AW.skip ?_;refine hK1310 _ _ _ ?_;exact JN (v10) hF (by simp [-List.reduceReplicate,AaR,AaS,AaK,F8]) (by simp [-List.reduceReplicate,AaR,AaS,AaK,F8])
   ·rintro v11 hF
    try dsimp only at hF
    unfold Aal.J3 at hF;refine RG [] [none,none,none] fun _ _ g r=>?_;try simp [-List.reduceReplicate,AaR,AaS,AaK,F4]
    and_intros <;> first | exact GK g | apply r | omega | (simp [-List.reduceReplicate,AaR,AaS,AaK,maxLen,F4] <;> omega)
    refine hK1303 _ _ _ ?_;exact NX (k':=n2) ((IntKind.wrap .i64 (v9+1),v11)) hF (by simp [-List.reduceReplicate,AaR,AaS,AaK,F4]) (by simp [-List.reduceReplicate,AaR,AaS,AaK,F4])
  ·replace hF:=Aah h6 hF;have h6_:=h6;try simp [-List.reduceReplicate] at h6_
   have F9:=A3 F3 h6 h6_;refine CF (by simp [-List.reduceReplicate,AaR,AaS,AaK,F9] <;> omega) ?_;refine AW.exit ?_;try simp [-List.reduceReplicate]
   refine hK1274 _ _ _ ?_;refine RG [] [none,none,none] fun _ _ g r=>?_;try simp [-List.reduceReplicate,AaR,AaS,AaK,F9]
   and_intros <;> first | exact GK g | apply r | omega | (simp [-List.reduceReplicate,AaR,AaS,AaK,maxLen,F9] <;> omega)
   refine hK1232 _ _ _ ?_;exact NX (k':=n1) ((IntKind.wrap .i64 (v7+1),v10)) hF (by simp [-List.reduceReplicate,AaR,AaS,AaK,F9]) (by simp [-List.reduceReplicate,AaR,AaS,AaK,F9])
 ·replace hF:=Aah h5 hF;have h5_:=h5;try simp [-List.reduceReplicate] at h5_
  have F10:=A3 F2 h5 h5_;refine CF (by simp [-List.reduceReplicate,AaR,AaS,AaK,F10] <;> omega) ?_;refine AW.exit ?_;try simp [-List.reduceReplicate]
  refine hK987 _ _ _ ?_;refine WK [(2,Iz v4),(7,AV.slc 1 0 1 v8.length true)] [(1,.cells (List.map AV.bool v8))] 2 (by simp [-List.reduceReplicate,AaR,AaS,AaK,F10]) (by simp [-List.reduceReplicate,AaR,AaS,AaK,F10]) ?_;refine AW.frz 1 (o := .cells (List.map AV.bool v8)) (by simp [-List.reduceReplicate,AaR,AaS,AaK,F10]) rfl [(7,AV.lst false true (List.map AV.bool v8))] [] ⟨(.l (by simp) (by simp) (by simp) (by simp)),trivial⟩ trivial ?_;refine WK [(2,Iz v4),(7,AV.lst false true (List.map AV.bool v8))] [] 2 (by simp [-List.reduceReplicate,AaR,AaS,AaK,F10]) (by simp [-List.reduceReplicate,AaR,AaS,AaK,F10]) ?_;refine SQ [] [none,none,none,none,none] fun _ _ g r=>?_;obtain ⟨v14,h18,h19,h20,hF⟩:=Aam hF;have h20_:=Aa2 h20;try simp [-List.reduceReplicate] at h20_
  have h19_:=h19;try simp [-List.reduceReplicate] at h19_
  have F11:=A6 F10 h18 h19 h20 h20_ h19_;try simp [-List.reduceReplicate,AaR,AaS,AaK,F11]
  and_intros <;> first | exact GK g | apply r | omega | (simp [-List.reduceReplicate,AaR,AaS,AaK,maxLen,F11] <;> omega)
  refine WK [(6,AV.bool v14)] [] 2 (by simp [-List.reduceReplicate,AaR,AaS,AaK,F11]) (by simp [-List.reduceReplicate,AaR,AaS,AaK,F11]) ?_;simp only [Option.some.injEq] at hF;subst hF;refine AW.ret (hQ _ _ _ ?_ (AaI ?_)).1
  ·simp [Try.f33,F11]
  ·simp [F11]
theorem Afe (k : Nat) (v0 : (List Int)) (v1 : Bool) (hF : AaF k v0=some v1) :
 AbF Try.prog 7 [AV.lst false false (List.map (AV.int .i64) v0)] [] (AV.bool v1) []:=by
 unfold AaF at hF;refine EN Try.func7 ?_;intro c0 w0 Q h0 hQ
 refine WK [(0,Lz v0)] [] 0 (by simp) (by simp) ?_;refine SQ [] [none] fun _ _ g r=>?_;try simp
 and_intros <;> first | exact GK g | apply r | omega | (simp [maxLen] <;> omega)
 refine WK [(0,Lz v0)] [] 0 (by simp) (by simp) ?_;refine AW.seq fun K2889 hK2889=>?_;refine SQ [] [none,none,none] fun _ _ g r=>?_;try simp
 and_intros
 try any_goals first | omega | (simp [maxLen] <;> omega)
 obtain ⟨v2,h1,hF⟩:=AaQ hF;refine AC (Air k _ _ h1) (.cons (.same (by simp)) .nil) ?_;try simp
 and_intros <;> first | exact GK g | apply r | omega | (simp [maxLen] <;> omega)
 refine WK [(0,Lz v0),(19,AV.bool (!v2))] [] 0 (by simp) (by simp) ?_;by_cases h2 : (!v2)=true
 ·replace hF:=Aag h2 hF;have h2_:=h2;try simp at h2_
  refine CT (by simp [h2,h2_] <;> omega) ?_;refine SQ [] [none,none] fun _ _ g r=>?_;try simp [h2,h2_]
  and_intros
  try any_goals first | omega | (simp [h2,h2_,maxLen] <;> omega)
  obtain ⟨v3,h3,hF⟩:=AaQ hF;refine AC (AeI k _ h3) .nil ?_;try simp [h2,h2_]
  and_intros <;> first | exact GK g | apply r | omega | (simp [h2,h2_,maxLen] <;> omega)
  refine WK [(2,AV.bool v3)] [] 0 (by simp [h2,h2_]) (by simp [h2,h2_]) ?_;simp only [Option.some.injEq] at hF;subst hF;refine AW.ret (hQ _ _ _ ?_ (AaI ?_)).1
  ·simp [Try.f7,h2,h2_]
  ·simp [h2,h2_]
 ·replace hF:=Aah h2 hF;have h2_:=h2;try simp at h2_
  refine CF (by simp [h2,h2_] <;> omega) ?_;refine AW.skip ?_;refine hK2889 _ _ _ ?_;refine SQ [] [none,none,none] fun _ _ g r=>?_;try simp [h2,h2_]
  and_intros
  try any_goals first | omega | (simp [h2,h2_,maxLen] <;> omega)
  obtain ⟨v4,v5,h4,hF⟩:=Abd hF;refine AC (Ajs k _ _ _ h4) (.cons (.same (by simp [h2,h2_])) .nil) ?_;try simp [h2,h2_]
  and_intros <;> first | exact GK g | apply r | omega | (simp [h2,h2_,maxLen] <;> omega)
  refine WK [(3,AV.ptr 0 0)] [(0,.cells [Lz v4,Iz v5])] 1 (by simp [h2,h2_]) (by simp [h2,h2_]) ?_;refine SQ [] [none,none,none,none] fun _ _ g r=>?_;try simp [h2,h2_]
  and_intros
  try any_goals first | omega | (simp [h2,h2_,maxLen] <;> omega)
  obtain ⟨v6,v7,v8,v9,h5,hF⟩:=Ajf hF;refine Aa9 (AfM k _ _ _ _ _ _ h5) (by simp) [0] [] [0] rfl (.cons (.same (by simp [h2,h2_])) .nil) (by simp [h2,h2_]) (by decide) (by simp) (by simp) (.inl rfl) (by simp) (by simp) ?_;try simp [h2,h2_]
  and_intros <;> first | exact GK g | apply r | omega | (simp [h2,h2_,maxLen] <;> omega)
  refine WK [(3,AV.ptr 0 0),(4,AV.ptr 3 0)] [(0,.cells [Lz v4,Iz v9]),(1,.grow (AaJ (List.map AaA.av v7))),(2,Gi v8),(3,.cells [Iz v6,AV.slc 1 0 3 v7.length false,AV.slc 2 0 1 v8.length false])] 4 (by simp [h2,h2_]) (by simp [h2,h2_]) ?_;refine AW.frz 2 (o:=Gi v8) (by simp [h2,h2_]) rfl [] [(3,.cells [Iz v6,AV.slc 1 0 3 v7.length false,Lz v8])] trivial ⟨⟨by simp,Aat.cells [Iz v6,AV.slc 1 0 3 v7.length false,AV.slc 2 0 1 v8.length false],by simp [h2,h2_],(.mk (.cons (.same _) (.cons (.same _) (.cons (.l (by simp) (by simp) (by simp) (by simp)) .nil))))⟩,trivial⟩ ?_;refine WK [(3,AV.ptr 0 0),(4,AV.ptr 3 0)] [(0,.cells [Lz v4,Iz v9]),(1,.grow (AaJ (List.map AaA.av v7))),(3,.cells [Iz v6,AV.slc 1 0 3 v7.length false,Lz v8])] 4 (by simp [h2,h2_]) (by simp [h2,h2_]) ?_;refine SQ [] [none,none,none,none,none,none,none,none,none,none] fun _ _ g r=>?_;try simp [h2,h2_]
  and_intros
  try any_goals first | omega | (simp [h2,h2_,maxLen] <;> omega)
  obtain ⟨v10,v11,h6,hF⟩:=Abd hF;refine Aa9 (AbU k _ _ _ _ _ h6) (by simp) [0] [] [0] rfl (.cons (.same (by simp [h2,h2_])) (.cons (.same (by simp [h2,h2_])) .nil)) (by simp [h2,h2_]) (by decide) (by simp) (by simp) (.inl rfl) (by simp) (by simp) ?_;try simp [h2,h2_]
  and_intros
  try any_goals first | omega | (simp [h2,h2_,maxLen] <;> omega)
  obtain ⟨v12,v13,h7,hF⟩:=Abd hF;refine Aa9 (AbU k _ _ _ _ _ h7) (by simp) [0] [] [0] rfl (.cons (.same (by simp [h2,h2_])) (.cons (.same (by simp [h2,h2_])) .nil)) (by simp [h2,h2_]) (by decide) (by simp) (by simp) (.inl rfl) (by simp) (by simp) ?_;try simp [h2,h2_]
  and_intros <;> first | exact GK g | apply r | omega | (simp [h2,h2_,maxLen] <;> omega)
  refine WK [(3,AV.ptr 0 0),(4,AV.ptr 3 0),(5,Iz v10),(6,Iz v12)] [(0,.cells [Lz v4,Iz v13]),(1,.grow (AaJ (List.map AaA.av v7))),(3,.cells [Iz v6,AV.slc 1 0 3 v7.length false,Lz v8])] 4 (by simp [h2,h2_]) (by simp [h2,h2_]) ?_;refine SQ [] [none,none,none,none,none] fun _ _ g r=>?_;try simp [h2,h2_]
  and_intros
  try any_goals first | omega | (simp [h2,h2_,maxLen] <;> omega)
  obtain ⟨v14,h8,hF⟩:=AaQ hF;refine Aa9 (Aee k _ _ _ _ _ _ _ h8) (by simp) [] [1] [] rfl (.cons (.agg (.cons (.same (by simp [h2,h2_])) (.cons (Coe.l (o := .grow (AaJ (List.map AaA.av v7))) (by simp [h2,h2_]) rfl (by simp [h2,h2_]) (by simp [Acz]) (by simp [h2,h2_]) (by simp [h2,h2_])) (.cons (.same (by simp [h2,h2_])) .nil)))) (.cons (.same (by simp [h2,h2_])) (.cons (.same (by simp [h2,h2_])) (.cons (.same (by simp [h2,h2_])) .nil)))) (by simp [h2,h2_]) (by decide) (by simp) (by simp) (.inr ⟨by simp,by simp⟩) (by simp) (by simp) ?_;try simp [h2,h2_]
  and_intros <;> first | exact GK g | apply r | omega | (simp [h2,h2_,maxLen] <;> omega)
  refine WK [(3,AV.ptr 0 0),(4,AV.ptr 3 0),(5,Iz v10),(6,Iz v12),(7,Iz v14)] [(0,.cells [Lz v4,Iz v13]),(1,.grow (AaJ (List.map AaA.av v7))),(3,.cells [Iz v6,AV.slc 1 0 3 v7.length false,Lz v8])] 4 (by simp [h2,h2_]) (by simp [h2,h2_]) ?_;refine AW.seq fun K2898 hK2898=>?_;refine SQ [] [none,none,none] fun _ _ g r=>?_;try simp [h2,h2_]
  and_intros <;> first | exact GK g | apply r | omega | (simp [h2,h2_,maxLen] <;> omega)
  refine WK [(3,AV.ptr 0 0),(4,AV.ptr 3 0),(5,Iz v10),(6,Iz v12),(7,Iz v14),(39,AV.bool (v10==v12))] [(0,.cells [Lz v4,Iz v13]),(1,.grow (AaJ (List.map AaA.av v7))),(3,.cells [Iz v6,AV.slc 1 0 3 v7.length false,Lz v8])] 4 (by simp [h2,h2_]) (by simp [h2,h2_]) ?_;by_cases h9 : v10=v12
  ·replace hF:=Aag h9 hF;have h9q : v10=v12:=h9;have h9_:=Abm h9q;have h9__:=Abl h9q;have F1:=A4 h2 h2_ h9_ h9__;refine CT (by simp [F1] <;> omega) ?_;refine SQ [] [none,none,some (41,true),some (41,true),none,none] fun _ _ g r=>?_;try simp [F1]
   and_intros
   try any_goals first | omega | (simp [maxLen,F1] <;> omega)
   obtain ⟨v15,h10,hF⟩:=AaQ hF;refine AC (AeI k _ h10) .nil ?_;by_cases h11 : v15=true
   ·replace hF:=Aag h11 hF;have h11_:=h11;try simp at h11_
    have F2:=A3 F1 h11 h11_;try simp [F2]
    and_intros <;> first | exact GK g | apply r | omega | (simp [maxLen,F2] <;> omega)
    refine WK [(2,AV.bool (v14==0))] [] 4 (by simp [F2]) (by simp [F2]) ?_;simp only [Option.some.injEq] at hF;subst hF;refine AW.ret (hQ _ _ _ ?_ (AaI ?_)).1
    ·simp [Try.f7,F2]
    ·simp [F2]
   ·replace hF:=Aah h11 hF;have h11_:=h11;try simp at h11_
    have F3:=A3 F1 h11 h11_;try simp [F3]
    and_intros <;> first | exact GK g | apply r | omega | (simp [maxLen,F3] <;> omega)
    refine WK [(2,AV.bool false)] [] 4 (by simp [F3]) (by simp [F3]) ?_;simp only [Option.some.injEq] at hF;subst hF;refine AW.ret (hQ _ _ _ ?_ (AaI ?_)).1
    ·simp [Try.f7,F3]
    ·simp [F3]
  ·replace hF:=Aah h9 hF;have h9_:=Abg h9;have h9__:=Abi h9;have F4:=A5 h2 h2_ h9 h9_ h9__;refine CF (by simp [F4] <;> omega) ?_;refine AW.skip ?_;refine hK2898 _ _ _ ?_;refine SQ [] [none] fun _ _ g r=>?_;try simp [F4]
   and_intros <;> first | exact GK g | apply r | omega | (simp [maxLen,F4] <;> omega)
   refine WK [(3,AV.ptr 0 0),(4,AV.ptr 3 0),(5,Iz v10),(6,Iz v12),(7,Iz v14),(8,Iz 0)] [(0,.cells [Lz v4,Iz v13]),(1,.grow (AaJ (List.map AaA.av v7))),(3,.cells [Iz v6,AV.slc 1 0 3 v7.length false,Lz v8])] 4 (by simp [F4]) (by simp [F4]) ?_;refine AW.midF (α:=Int) (fun v16=>AaF.J1 k v4 v6 v7 v8 v10 v12 v13 v14 v16=some v1) (fun v16=>[(3,AV.ptr 0 0),(4,AV.ptr 1 0),(5,Iz v10),(6,Iz v12),(7,Iz v14),(8,Iz v16)]) (fun v16=>[(0,.cells [Lz v4,Iz v13]),(1,.cells [Iz v6,AV.slc 2 0 3 v7.length false,Lz v8]),(2,.grow (AaJ (List.map AaA.av v7)))]) 3 (fun K5768 hK5768=>?_) ?_
   ·refine SQ [] [none,none,none,none,none] fun _ _ g r=>?_;try simp [F4]
    and_intros
    try any_goals first | omega | (simp [maxLen,F4] <;> omega)
    obtain ⟨v33,h45,hF⟩:=AaQ hF;refine Aa9 (Ajr k _ _ _ _ _ h45) (by simp) [] [1] [] rfl (.cons (.agg (.cons (.same (by simp [F4])) (.cons (Coe.l (o := .grow (AaJ (List.map AaA.av v7))) (by simp [F4]) rfl (by simp [F4]) (by simp [Acz]) (by simp [F4]) (by simp [F4])) (.cons (.same (by simp [F4])) .nil)))) (.cons (.same (by simp [F4])) .nil)) (by simp [F4]) (by decide) (by simp) (by simp) (.inr ⟨by simp,by simp⟩) (by simp) (by simp) ?_;try simp [F4]
    and_intros
    try any_goals first | omega | (simp [maxLen,F4] <;> omega)
    obtain ⟨v34,h46,hF⟩:=AaQ hF;refine Aa9 (Ack k _ _ _ h46) (by simp) [] [4] [] rfl (.cons (Coe.l (o:=Gi v33) (by simp [F4]) rfl (by simp [F4]) (by simp [Acz]) (by simp [F4]) (by simp [F4])) (.cons (.same (by simp [F4])) .nil)) (by simp [F4]) (by decide) (by simp) (by simp) (.inr ⟨by simp,by simp⟩) (by simp) (by simp) ?_;try simp [F4]
    and_intros <;> first | exact GK g | apply r | omega | (simp [maxLen,F4] <;> omega)
    refine WK [(3,AV.ptr 0 0),(4,AV.ptr 3 0),(5,Iz v10),(6,Iz v12),(7,Iz v14),(8,Iz 0),(49,AV.bool v34)] [(0,.cells [Lz v4,Iz v13]),(1,.grow (AaJ (List.map AaA.av v7))),(3,.cells [Iz v6,AV.slc 1 0 3 v7.length false,Lz v8])] 5 (by simp [F4]) (by simp [F4]) ?_;by_cases h47 : v34=true
    ·replace hF:=Aag h47 hF;have h47_:=h47;try simp at h47_
     have F5:=A3 F4 h47 h47_;refine CT (by simp [F5] <;> omega) ?_;refine RG [] [none] fun _ _ g r=>?_;try simp [F5]
     and_intros <;> first | exact GK g | apply r | omega | (simp [maxLen,F5] <;> omega)
     refine hK5768 _ _ _ ?_;refine RN h0 [(0,0),(1,3),(2,1)] [(3,AV.ptr 0 0),(4,AV.ptr 1 0),(5,Iz v10),(6,Iz v12),(7,Iz v14),(8,Iz 1)] [(0,.cells [Lz v4,Iz v13]),(1,.cells [Iz v6,AV.slc 2 0 3 v7.length false,Lz v8]),(2,.grow (AaJ (List.map AaA.av v7)))] 3 (by simp [F5]) (by simp [F5]) ?_;exact JN (1) hF (by simp [F5]) (by simp [F5])
    ·replace hF:=Aah h47 hF;have h47_:=h47;try simp at h47_
     have F6:=A3 F4 h47 h47_;refine CF (by simp [F6] <;> omega) ?_;refine AW.skip ?_;refine hK5768 _ _ _ ?_;refine RN h0 [(0,0),(1,3),(2,1)] [(3,AV.ptr 0 0),(4,AV.ptr 1 0),(5,Iz v10),(6,Iz v12),(7,Iz v14),(8,Iz 0)] [(0,.cells [Lz v4,Iz v13]),(1,.cells [Iz v6,AV.slc 2 0 3 v7.length false,Lz v8]),(2,.grow (AaJ (List.map AaA.av v7)))] 3 (by simp [F6]) (by simp [F6]) ?_;exact JN (0) hF (by simp [F6]) (by simp [F6])
   ·rintro v16 hF
    try dsimp only at hF
    unfold AaF.J1 at hF;refine SQ [] [none] fun _ _ g r=>?_;try simp [F4]
    and_intros <;> first | exact GK g | apply r | omega | (simp [maxLen,F4] <;> omega)
    refine WK [(3,AV.ptr 0 0),(4,AV.ptr 1 0),(5,Iz v10),(6,Iz v12),(7,Iz v14),(8,Iz v16),(9,Iz 99)] [(0,.cells [Lz v4,Iz v13]),(1,.cells [Iz v6,AV.slc 2 0 3 v7.length false,Lz v8]),(2,.grow (AaJ (List.map AaA.av v7)))] 3 (by simp [F4]) (by simp [F4]) ?_;refine AW.seq fun K4335 hK4335=>?_;refine SQ [] [none] fun _ _ g r=>?_;try simp [F4]
    and_intros <;> first | exact GK g | apply r | omega | (simp [maxLen,F4] <;> omega)
    refine WK [(3,AV.ptr 0 0),(4,AV.ptr 1 0),(5,Iz v10),(6,Iz v12),(7,Iz v14),(8,Iz v16),(9,Iz 99),(10,Iz 0)] [(0,.cells [Lz v4,Iz v13]),(1,.cells [Iz v6,AV.slc 2 0 3 v7.length false,Lz v8]),(2,.grow (AaJ (List.map AaA.av v7)))] 3 (by simp [F4]) (by simp [F4]) ?_;refine AW.block ?_;refine AW.loopF (α:=(Int×Int)) (fun n (v17,v18)=>AaF.L2 k v4 v6 v7 v8 v10 v12 v13 v14 v16 n v17 v18=some v1) (fun (v17,v18)=>[(3,AV.ptr 0 0),(4,AV.ptr 1 0),(5,Iz v10),(6,Iz v12),(7,Iz v14),(8,Iz v16),(9,Iz v17),(10,Iz v18)]) (fun (v17,v18)=>[(0,.cells [Lz v4,Iz v13]),(1,.cells [Iz v6,AV.slc 2 0 3 v7.length false,Lz v8]),(2,.grow (AaJ (List.map AaA.av v7)))]) 3 k ((99,0)) hF (by simp [F4]) (by simp [F4]) (by simp) ?_;rintro (_|n2) ⟨v17,v18⟩ hF K5408 hK5408
    ·try dsimp only at hF
     rw [AaF.L2] at hF; cases hF
    try dsimp only at hF
    rw [AaF.L2] at hF;refine AW.seq fun K5410 hK5410=>?_;refine SQ [] [none,none,none,none,none,none] fun _ _ g r=>?_;obtain ⟨h12,hF⟩:=Aab hF;try simp [F4,h12]
    and_intros <;> first | exact GK g | apply r | omega | (simp [maxLen,F4,h12] <;> omega)
    refine WK [(3,AV.ptr 0 0),(4,AV.ptr 1 0),(5,Iz v10),(6,Iz v12),(7,Iz v14),(8,Iz v16),(9,Iz v17),(10,Iz v18),(55,AV.bool (decide (v18<IntKind.wrap .i64 (1*2 ^ (min ((IntKind.wrap .u64 v6).toNat) 64)))))] [(0,.cells [Lz v4,Iz v13]),(1,.cells [Iz v6,AV.slc 2 0 3 v7.length false,Lz v8]),(2,.grow (AaJ (List.map AaA.av v7)))] 3 (by simp [F4,h12]) (by simp [F4,h12]) ?_;by_cases h13 : v18<IntKind.wrap .i64 (1*2 ^ (min ((IntKind.wrap .u64 v6).toNat) 64))
    ·replace hF:=Aag h13 hF;have h13_:=h13;try simp at h13_
     have F7:=A4 F4 h12 h13 h13_;refine CT (by simp [F7] <;> omega) ?_;refine AW.skip ?_;refine hK5410 _ _ _ ?_;refine AW.midF (α:=Int) (fun v19=>AaF.J3 k v18 (fun v17_ v18_=>AaF.L2 k v4 v6 v7 v8 v10 v12 v13 v14 v16 n2 v17_ v18_) v19=some v1) (fun v19=>[(3,AV.ptr 0 0),(4,AV.ptr 1 0),(5,Iz v10),(6,Iz v12),(7,Iz v14),(8,Iz v16),(9,Iz v19),(10,Iz v18)]) (fun v19=>[(0,.cells [Lz v4,Iz v13]),(1,.cells [Iz v6,AV.slc 2 0 3 v7.length false,Lz v8]),(2,.grow (AaJ (List.map AaA.av v7)))]) 3 (fun K5589 hK5589=>?_) ?_
     ·refine AW.block ?_;refine AW.seq fun K5591 hK5591=>?_;refine SQ [] [none,none,none,none,none,none,none,some (64,false),some (64,false),some (64,false),some (64,false),some (64,false),some (64,false),none] fun _ _ g r=>?_;obtain ⟨h14,hF⟩:=Aab hF;by_cases h15 : (Ac6 .and .i64 (Int.fdiv v18 (2 ^ (min ((IntKind.wrap .u64 v10).toNat) 64))) 1)=1
      ·replace hF:=Aag h15 hF;have h15q : (Ac6 .and .i64 (Int.fdiv v18 (2 ^ (min ((IntKind.wrap .u64 v10).toNat) 64))) 1)=1:=h15;have h15_:=Abm h15q;have h15__:=Abl h15q;have F8:=A5 F7 h14 h15_ h15__ h15q;try simp [F8]
       and_intros <;> first | exact GK g | apply r | omega | (simp [maxLen,F8] <;> omega)
       refine WK [(3,AV.ptr 0 0),(4,AV.ptr 1 0),(5,Iz v10),(6,Iz v12),(7,Iz v14),(8,Iz v16),(9,Iz v17),(10,Iz v18),(71,AV.bool true)] [(0,.cells [Lz v4,Iz v13]),(1,.cells [Iz v6,AV.slc 2 0 3 v7.length false,Lz v8]),(2,.grow (AaJ (List.map AaA.av v7)))] 3 (by simp [F8]) (by simp [F8]) ?_;refine CT (by simp [F8]) ?_;refine AW.exit ?_;try simp
       refine hK5589 _ _ _ ?_;exact JN (v17) hF (by simp [F8]) (by simp [F8])
      ·replace hF:=Aah h15 hF;have h15_:=Abg h15;have h15__:=Abi h15;obtain ⟨h16,hF⟩:=Aab hF;have F9:=A6 F7 h14 h15 h15_ h15__ h16;try simp [F9]
       and_intros <;> first | exact GK g | apply r | omega | (simp [maxLen,F9] <;> omega)
       refine WK [(3,AV.ptr 0 0),(4,AV.ptr 1 0),(5,Iz v10),(6,Iz v12),(7,Iz v14),(8,Iz v16),(9,Iz v17),(10,Iz v18),(71,AV.bool ((Ac6 .and .i64 (Int.fdiv v18 (2 ^ (min ((IntKind.wrap .u64 v12).toNat) 64))) 1)==1))] [(0,.cells [Lz v4,Iz v13]),(1,.cells [Iz v6,AV.slc 2 0 3 v7.length false,Lz v8]),(2,.grow (AaJ (List.map AaA.av v7)))] 3 (by simp [F9]) (by simp [F9]) ?_;by_cases h17 : (Ac6 .and .i64 (Int.fdiv v18 (2 ^ (min ((IntKind.wrap .u64 v12).toNat) 64))) 1)=1
       ·replace hF:=Aag h17 hF;have h17q : (Ac6 .and .i64 (Int.fdiv v18 (2 ^ (min ((IntKind.wrap .u64 v12).toNat) 64))) 1)=1:=h17;have h17_:=Abm h17q;have h17__:=Abl h17q;have F10:=A4 F9 h17_ h17__ h17q;refine CT (by simp [F10] <;> omega) ?_;refine AW.exit ?_;try simp
        refine hK5589 _ _ _ ?_;exact JN (v17) hF (by simp [F10]) (by simp [F10])
       ·replace hF:=Aah h17 hF;have h17_:=Abg h17;have h17__:=Abi h17;have F11:=A4 F9 h17 h17_ h17__;refine CF (by simp [F11] <;> omega) ?_;refine AW.skip ?_;refine hK5591 _ _ _ ?_;refine SQ [] [none,none,none,none,none,none,none] fun _ _ g r=>?_;try simp [F11]
        and_intros <;> first | exact GK g | apply r | omega | (simp [maxLen,F11] <;> omega)
        refine WK [(3,AV.ptr 0 0),(4,AV.ptr 1 0),(5,Iz v10),(6,Iz v12),(7,Iz v14),(8,Iz v16),(9,Iz v17),(10,Iz v18),(11,Iz v16),(12,AV.ptr 3 0)] [(0,.cells [Lz v4,Iz v13]),(1,.cells [Iz v6,AV.slc 2 0 3 v7.length false,Lz v8]),(2,.grow (AaJ (List.map AaA.av v7))),(3,.cells [Iz v6,AV.lst true true (List.map AaA.av ([] : List AaA)),AV.lst true true (List.map (AV.int .i64) ([] : List Int))])] 4 (by simp [F11]) (by simp [F11]) ?_;refine AW.seq fun K5624 hK5624=>?_;refine SQ [] [none] fun _ _ g r=>?_;try simp [F11]
        and_intros <;> first | exact GK g | apply r | omega | (simp [maxLen,F11] <;> omega)
        refine WK [(3,AV.ptr 0 0),(4,AV.ptr 1 0),(5,Iz v10),(6,Iz v12),(7,Iz v14),(8,Iz v16),(9,Iz v17),(10,Iz v18),(11,Iz v16),(12,AV.ptr 3 0),(13,Iz 0)] [(0,.cells [Lz v4,Iz v13]),(1,.cells [Iz v6,AV.slc 2 0 3 v7.length false,Lz v8]),(2,.grow (AaJ (List.map AaA.av v7))),(3,.cells [Iz v6,AV.lst true true (List.map AaA.av ([] : List AaA)),AV.lst true true (List.map (AV.int .i64) ([] : List Int))])] 4 (by simp [F11]) (by simp [F11]) ?_;refine AW.block ?_;refine AW.ownC 3 1 3 true (cs:=[Iz v6,AV.lst true true (List.map AaA.av ([] : List AaA)),AV.lst true true (List.map (AV.int .i64) ([] : List Int))]) (by simp [F11]) (by simp) ?_;refine AW.loopF (α:=(Int×Int)) (fun n (v20,v21)=>AaF.L4 k v6 v7 v10 v12 v17 v18 (fun v17_ v18_=>AaF.L2 k v4 v6 v7 v8 v10 v12 v13 v14 v16 n2 v17_ v18_) n v20 v21=some v1) (fun (v20,v21)=>[(3,AV.ptr 0 0),(4,AV.ptr 1 0),(5,Iz v10),(6,Iz v12),(7,Iz v14),(8,Iz v16),(9,Iz v17),(10,Iz v18),(11,Iz v20),(12,AV.ptr 3 0),(13,Iz v21)]) (fun (v20,v21)=>[(0,.cells [Lz v4,Iz v13]),(1,.cells [Iz v6,AV.slc 2 0 3 v7.length false,Lz v8]),(2,.grow (AaJ (List.map AaA.av v7))),(3,.cells [Iz v6,AV.slc 4 0 3 (([] : List AaA).length) false,AV.lst true true (List.map (AV.int .i64) ([] : List Int))]),(4,.grow (AaJ (List.map AaA.av ([] : List AaA))))]) 5 k ((v16,0)) hF (by simp [F11]) (by simp [F11]) (by simp) ?_;rintro (_|n4) ⟨v20,v21⟩ hF K5647 hK5647
        ·try dsimp only at hF
         rw [AaF.L4] at hF; cases hF
        try dsimp only at hF
        rw [AaF.L4] at hF;refine AW.seq fun K5649 hK5649=>?_;refine SQ [] [none,none,none,none] fun _ _ g r=>?_;try simp [F11]
        and_intros <;> first | exact GK g | apply r | omega | (simp [maxLen,F11] <;> omega)
        refine WK [(3,AV.ptr 0 0),(4,AV.ptr 1 0),(5,Iz v10),(6,Iz v12),(7,Iz v14),(8,Iz v16),(9,Iz v17),(10,Iz v18),(11,Iz v20),(12,AV.ptr 3 0),(13,Iz v21),(79,AV.bool (decide (v21<v6)))] [(0,.cells [Lz v4,Iz v13]),(1,.cells [Iz v6,AV.slc 2 0 3 v7.length false,Lz v8]),(2,.grow (AaJ (List.map AaA.av v7))),(3,.cells [Iz v6,AV.slc 4 0 3 (([] : List AaA).length) false,AV.lst true true (List.map (AV.int .i64) ([] : List Int))]),(4,.grow (AaJ (List.map AaA.av ([] : List AaA))))] 5 (by simp [F11]) (by simp [F11]) ?_;by_cases h18 : v21<v6
        ·replace hF:=Aag h18 hF;have h18_:=h18;try simp at h18_
         have F12:=A3 F11 h18 h18_;refine CT (by simp [F12] <;> omega) ?_;refine AW.skip ?_;refine hK5649 _ _ _ ?_;refine AW.seq fun K5652 hK5652=>?_;refine AW.block ?_;refine RG [] [none,none,none,none,none,none,none,none] fun _ _ g r=>?_;obtain ⟨h19,hF⟩:=Aab hF;have F13:=A2 F12 h19;try simp [F13]
         and_intros <;> first | exact GK g | apply r | omega | (simp [maxLen,F13] <;> omega)
         refine hK5652 _ _ _ ?_;refine WK [(3,AV.ptr 0 0),(4,AV.ptr 1 0),(5,Iz v10),(6,Iz v12),(7,Iz v14),(8,Iz v16),(9,Iz v17),(10,Iz v18),(11,Iz (IntKind.wrap .i64 (v20+Ac6 .and .i64 (Int.fdiv v18 (2 ^ (min ((IntKind.wrap .u64 v21).toNat) 64))) 1))),(12,AV.ptr 3 0),(13,Iz v21)] [(0,.cells [Lz v4,Iz v13]),(1,.cells [Iz v6,AV.slc 2 0 3 v7.length false,Lz v8]),(2,.grow (AaJ (List.map AaA.av v7))),(3,.cells [Iz v6,AV.slc 4 0 3 (([] : List AaA).length) false,AV.lst true true (List.map (AV.int .i64) ([] : List Int))]),(4,.grow (AaJ (List.map AaA.av ([] : List AaA))))] 5 (by simp [F13]) (by simp [F13]) ?_;refine RG [] [none,none,none] fun _ _ g r=>?_;try simp [F13]
         and_intros <;> first | exact GK g | apply r | omega | (simp [maxLen,F13] <;> omega)
         refine hK5647 _ _ _ ?_;exact NX (k':=n4) ((IntKind.wrap .i64 (v20+Ac6 .and .i64 (Int.fdiv v18 (2 ^ (min ((IntKind.wrap .u64 v21).toNat) 64))) 1),IntKind.wrap .i64 (v21+1))) hF (by simp [F13]) (by simp [F13])
        ·replace hF:=Aah h18 hF;have h18_:=h18;try simp at h18_
         have F14:=A3 F11 h18 h18_;refine CF (by simp [F14] <;> omega) ?_;refine AW.exit ?_;try simp
         refine hK5624 _ _ _ ?_;refine AW.seq fun K5709 hK5709=>?_;refine SQ [] [none] fun _ _ g r=>?_;try simp [F14]
         and_intros <;> first | exact GK g | apply r | omega | (simp [maxLen,F14] <;> omega)
         refine WK [(3,AV.ptr 0 0),(4,AV.ptr 1 0),(5,Iz v10),(6,Iz v12),(7,Iz v14),(8,Iz v16),(9,Iz v17),(10,Iz v18),(11,Iz v20),(12,AV.ptr 3 0),(14,Iz 0)] [(0,.cells [Lz v4,Iz v13]),(1,.cells [Iz v6,AV.slc 2 0 3 v7.length false,Lz v8]),(2,.grow (AaJ (List.map AaA.av v7))),(3,.cells [Iz v6,AV.slc 4 0 3 (([] : List AaA).length) false,AV.lst true true (List.map (AV.int .i64) ([] : List Int))]),(4,.grow (AaJ (List.map AaA.av ([] : List AaA))))] 5 (by simp [F14]) (by simp [F14]) ?_;refine AW.block ?_;refine AW.loopF (α:=(Int×(List AaA))) (fun n (v22,v23)=>AaF.L5 k v6 v7 v10 v12 v17 v18 v20 (fun v17_ v18_=>AaF.L2 k v4 v6 v7 v8 v10 v12 v13 v14 v16 n2 v17_ v18_) n v22 v23=some v1) (fun (v22,v23)=>[(3,AV.ptr 0 0),(4,AV.ptr 1 0),(5,Iz v10),(6,Iz v12),(7,Iz v14),(8,Iz v16),(9,Iz v17),(10,Iz v18),(11,Iz v20),(12,AV.ptr 3 0),(14,Iz v22)]) (fun (v22,v23)=>[(0,.cells [Lz v4,Iz v13]),(1,.cells [Iz v6,AV.slc 2 0 3 v7.length false,Lz v8]),(2,.grow (AaJ (List.map AaA.av v7))),(3,.cells [Iz v6,AV.slc 4 0 3 v23.length false,AV.lst true true (List.map (AV.int .i64) ([] : List Int))]),(4,.grow (AaJ (List.map AaA.av v23)))]) 5 k ((0,([] : List AaA))) hF (by simp [F14]) (by simp [F14]) (by simp) ?_;rintro (_|n5) ⟨v22,v23⟩ hF K5750 hK5750
         ·try dsimp only at hF
          rw [AaF.L5] at hF; cases hF
         try dsimp only at hF
         rw [AaF.L5] at hF;refine AW.seq fun K5752 hK5752=>?_;refine SQ [] [none,none,none,none,none] fun _ _ g r=>?_;try simp [F14]
         and_intros <;> first | exact GK g | apply r | omega | (simp [maxLen,F14] <;> omega)
         refine WK [(3,AV.ptr 0 0),(4,AV.ptr 1 0),(5,Iz v10),(6,Iz v12),(7,Iz v14),(8,Iz v16),(9,Iz v17),(10,Iz v18),(11,Iz v20),(12,AV.ptr 3 0),(14,Iz v22),(93,AV.bool (decide (v22<(v7.length : Int))))] [(0,.cells [Lz v4,Iz v13]),(1,.cells [Iz v6,AV.slc 2 0 3 v7.length false,Lz v8]),(2,.grow (AaJ (List.map AaA.av v7))),(3,.cells [Iz v6,AV.slc 4 0 3 v23.length false,AV.lst true true (List.map (AV.int .i64) ([] : List Int))]),(4,.grow (AaJ (List.map AaA.av v23)))] 5 (by simp [F14]) (by simp [F14]) ?_;by_cases h20 : v22<(v7.length : Int)
         ·replace hF:=Aag h20 hF;have h20_:=h20;try simp at h20_
          have F15:=A3 F14 h20 h20_;refine CT (by simp [F15] <;> omega) ?_;refine AW.skip ?_;refine hK5752 _ _ _ ?_;refine AW.midF (α:=(List AaA)) (fun v24=>AaF.J6 k v22 (fun v22_ v23_=>AaF.L5 k v6 v7 v10 v12 v17 v18 v20 (fun v17_ v18_=>AaF.L2 k v4 v6 v7 v8 v10 v12 v13 v14 v16 n2 v17_ v18_) n5 v22_ v23_) v24=some v1) (fun v24=>[(3,AV.ptr 0 0),(4,AV.ptr 1 0),(5,Iz v10),(6,Iz v12),(7,Iz v14),(8,Iz v16),(9,Iz v17),(10,Iz v18),(11,Iz v20),(12,AV.ptr 3 0),(14,Iz v22)]) (fun v24=>[(0,.cells [Lz v4,Iz v13]),(1,.cells [Iz v6,AV.slc 2 0 3 v7.length false,Lz v8]),(2,.grow (AaJ (List.map AaA.av v7))),(3,.cells [Iz v6,AV.slc 4 0 3 v24.length false,AV.lst true true (List.map (AV.int .i64) ([] : List Int))]),(4,.grow (AaJ (List.map AaA.av v24)))]) 5 (fun K5759 hK5759=>?_) ?_
          ·refine AW.block ?_;refine SQ [] [none,none,none,none,none,none,none] fun _ _ g r=>?_;obtain ⟨v25,h21,h22,h23,hF⟩:=Aam hF;have h23_:=Aa2 h23;try simp at h23_
           have h22_:=h22;try simp at h22_
           have h24:=AfV (F:=AaA.av) (es:=3) (fun _=>rfl) (by decide) h22;have h25:=AcQ (F:=AaA.av) (es:=3) (fun _=>rfl) v7;have h26:=AgM (F:=AaA.av) (es:=3) (fun _=>rfl) h23 0 (by decide);try simp only [Nat.add_zero] at h26
           have F16:=A9 F15 h21 h22 h23 h23_ h22_ h24 h25 h26;try simp [F16]
           and_intros <;> first | exact GK g | apply r | omega | (simp [maxLen,F16] <;> omega)
           refine WK [(3,AV.ptr 0 0),(4,AV.ptr 1 0),(5,Iz v10),(6,Iz v12),(7,Iz v14),(8,Iz v16),(9,Iz v17),(10,Iz v18),(11,Iz v20),(12,AV.ptr 3 0),(14,Iz v22),(15,AV.ptr 5 0)] [(0,.cells [Lz v4,Iz v13]),(1,.cells [Iz v6,AV.slc 2 0 3 v7.length false,Lz v8]),(2,.grow (AaJ (List.map AaA.av v7))),(3,.cells [Iz v6,AV.slc 4 0 3 v23.length false,AV.lst true true (List.map (AV.int .i64) ([] : List Int))]),(4,.grow (AaJ (List.map AaA.av v23))),(5,.cells [Iz v25.From,Iz v25.To,Iz v25.Level])] 6 (by simp [F16]) (by simp [F16]) ?_;refine SQ [] [none,none,none,none,none,none,none,none,some (108,true),some (108,true),some (108,true),some (108,true),some (108,true),some (108,true),some (108,true),none,none,some (117,true),some (117,true),some (117,true),some (117,true),some (117,true),some (122,true),some (122,true),some (122,true),some (122,true),some (117,true),some (117,true),none] fun _ _ g r=>?_;obtain ⟨h27,hF⟩:=Aab hF;by_cases h28 : (Ac6 .and .i64 (Int.fdiv v18 (2 ^ (min ((IntKind.wrap .u64 v25.From).toNat) 64))) 1)=0
           ·replace hF:=Aag h28 hF;have h28q : (Ac6 .and .i64 (Int.fdiv v18 (2 ^ (min ((IntKind.wrap .u64 v25.From).toNat) 64))) 1)=0:=h28;have h28_:=Abm h28q;have h28__:=Abl h28q;obtain ⟨h29,hF⟩:=Aab hF;by_cases h30 : (Ac6 .and .i64 (Int.fdiv v18 (2 ^ (min ((IntKind.wrap .u64 v25.To).toNat) 64))) 1)=0
            ·replace hF:=Aag h30 hF;have h30q : (Ac6 .and .i64 (Int.fdiv v18 (2 ^ (min ((IntKind.wrap .u64 v25.To).toNat) 64))) 1)=0:=h30;have h30_:=Abm h30q;have h30__:=Abl h30q;by_cases h31 : v25.From=v10
             ·replace hF:=Aag h31 hF;have h31q : v25.From=v10:=h31;have h31_:=Abm h31q;have h31__:=Abl h31q;have F17:=A9 F16 h27 h28_ h28__ h28q h29 h30_ h30__ (A3 h30q h31_ h31__);try simp [F17]
              and_intros <;> first | exact GK g | apply r | omega | (simp [maxLen,F17] <;> omega)
              refine WK [(3,AV.ptr 0 0),(4,AV.ptr 1 0),(5,Iz v10),(6,Iz v12),(7,Iz v14),(8,Iz v16),(9,Iz v17),(10,Iz v18),(11,Iz v20),(12,AV.ptr 3 0),(14,Iz v22),(15,AV.ptr 5 0),(129,AV.bool (v25.To !=v12))] [(0,.cells [Lz v4,Iz v13]),(1,.cells [Iz v6,AV.slc 2 0 3 v7.length false,Lz v8]),(2,.grow (AaJ (List.map AaA.av v7))),(3,.cells [Iz v6,AV.slc 4 0 3 v23.length false,AV.lst true true (List.map (AV.int .i64) ([] : List Int))]),(4,.grow (AaJ (List.map AaA.av v23))),(5,.cells [Iz v25.From,Iz v25.To,Iz v25.Level])] 6 (by simp [F17]) (by simp [F17]) ?_;by_cases h32 : v25.To≠v12
              ·replace hF:=Aag h32 hF;have h32_:=Abg h32;have h32__:=Abi h32;refine CT (by simp [F17,h32,h32_,h32__] <;> omega) ?_;refine RG [] [none,none,none,none,none,none,none] fun _ _ g r=>?_;obtain ⟨h33,hF⟩:=Aab hF;have h33_:=h33;try simp at h33_
               have F18:=A5 F17 h32 h32_ h32__ h33;try simp [F18]
               and_intros <;> first | exact GK g | apply r | omega | (simp [maxLen,F18] <;> omega)
               refine hK5759 _ _ _ ?_;refine RN h0 [(0,0),(1,1),(2,2),(3,3),(4,6)] [(3,AV.ptr 0 0),(4,AV.ptr 1 0),(5,Iz v10),(6,Iz v12),(7,Iz v14),(8,Iz v16),(9,Iz v17),(10,Iz v18),(11,Iz v20),(12,AV.ptr 3 0),(14,Iz v22)] [(0,.cells [Lz v4,Iz v13]),(1,.cells [Iz v6,AV.slc 2 0 3 v7.length false,Lz v8]),(2,.grow (AaJ (List.map AaA.av v7))),(3,.cells [Iz v6,AV.slc 4 0 3 ((v23++([v25] : List AaA)).length) false,AV.lst true true (List.map (AV.int .i64) ([] : List Int))]),(4,.grow (AaJ (List.map AaA.av (v23++([v25] : List AaA)))))] 5 (by simp [F18]) (by simp [F18] <;> omega) ?_;exact JN (v23++([v25] : List AaA)) hF (by simp [F18]) (by simp [F18])
              ·replace hF:=Aah h32 hF;have h32q : v25.To=v12:=Classical.not_not.1 h32;have h32_:=Abm h32q;have h32__:=Abl h32q;have F19:=A3 F17 h32_ h32__;refine CF (by simp [F19] <;> omega) ?_;refine AW.skip ?_;refine hK5759 _ _ _ ?_;refine RN h0 [(0,0),(1,1),(2,2),(3,3),(4,4)] [(3,AV.ptr 0 0),(4,AV.ptr 1 0),(5,Iz v10),(6,Iz v12),(7,Iz v14),(8,Iz v16),(9,Iz v17),(10,Iz v18),(11,Iz v20),(12,AV.ptr 3 0),(14,Iz v22)] [(0,.cells [Lz v4,Iz v13]),(1,.cells [Iz v6,AV.slc 2 0 3 v7.length false,Lz v8]),(2,.grow (AaJ (List.map AaA.av v7))),(3,.cells [Iz v6,AV.slc 4 0 3 v23.length false,AV.lst true true (List.map (AV.int .i64) ([] : List Int))]),(4,.grow (AaJ (List.map AaA.av v23)))] 5 (by simp [F19]) (by simp [F19]) ?_;exact JN (v23) hF (by simp [F19]) (by simp [F19])
             ·replace hF:=Aah h31 hF;have h31_:=Abg h31;have h31__:=Abi h31;have F20:=A9 F16 h27 h28_ h28__ h28q h29 h30_ h30__ (A4 h30q h31 h31_ h31__);try simp [F20]
              and_intros <;> first | exact GK g | apply r | omega | (simp [maxLen,F20] <;> omega)
              refine WK [(3,AV.ptr 0 0),(4,AV.ptr 1 0),(5,Iz v10),(6,Iz v12),(7,Iz v14),(8,Iz v16),(9,Iz v17),(10,Iz v18),(11,Iz v20),(12,AV.ptr 3 0),(14,Iz v22),(15,AV.ptr 5 0),(129,AV.bool true)] [(0,.cells [Lz v4,Iz v13]),(1,.cells [Iz v6,AV.slc 2 0 3 v7.length false,Lz v8]),(2,.grow (AaJ (List.map AaA.av v7))),(3,.cells [Iz v6,AV.slc 4 0 3 v23.length false,AV.lst true true (List.map (AV.int .i64) ([] : List Int))]),(4,.grow (AaJ (List.map AaA.av v23))),(5,.cells [Iz v25.From,Iz v25.To,Iz v25.Level])] 6 (by simp [F20]) (by simp [F20]) ?_;refine CT (by simp [F20]) ?_;refine RG [] [none,none,none,none,none,none,none] fun _ _ g r=>?_;obtain ⟨h34,hF⟩:=Aab hF;have h34_:=h34;try simp at h34_
              have F21:=A2 F20 h34;try simp [F21]
              and_intros <;> first | exact GK g | apply r | omega | (simp [maxLen,F21] <;> omega)
              refine hK5759 _ _ _ ?_;refine RN h0 [(0,0),(1,1),(2,2),(3,3),(4,6)] [(3,AV.ptr 0 0),(4,AV.ptr 1 0),(5,Iz v10),(6,Iz v12),(7,Iz v14),(8,Iz v16),(9,Iz v17),(10,Iz v18),(11,Iz v20),(12,AV.ptr 3 0),(14,Iz v22)] [(0,.cells [Lz v4,Iz v13]),(1,.cells [Iz v6,AV.slc 2 0 3 v7.length false,Lz v8]),(2,.grow (AaJ (List.map AaA.av v7))),(3,.cells [Iz v6,AV.slc 4 0 3 ((v23++([v25] : List AaA)).length) false,AV.lst true true (List.map (AV.int .i64) ([] : List Int))]),(4,.grow (AaJ (List.map AaA.av (v23++([v25] : List AaA)))))] 5 (by simp [F21]) (by simp [F21] <;> omega) ?_;exact JN (v23++([v25] : List AaA)) hF (by simp [F21]) (by simp [F21])
            ·replace hF:=Aah h30 hF;have h30_:=Abg h30;have h30__:=Abi h30;have F22:=A9 F16 h27 h28_ h28__ h28q h29 h30 h30_ h30__;try simp [F22]
             and_intros <;> first | exact GK g | apply r | omega | (simp [maxLen,F22] <;> omega)
             refine WK [(3,AV.ptr 0 0),(4,AV.ptr 1 0),(5,Iz v10),(6,Iz v12),(7,Iz v14),(8,Iz v16),(9,Iz v17),(10,Iz v18),(11,Iz v20),(12,AV.ptr 3 0),(14,Iz v22),(15,AV.ptr 5 0),(129,AV.bool false)] [(0,.cells [Lz v4,Iz v13]),(1,.cells [Iz v6,AV.slc 2 0 3 v7.length false,Lz v8]),(2,.grow (AaJ (List.map AaA.av v7))),(3,.cells [Iz v6,AV.slc 4 0 3 v23.length false,AV.lst true true (List.map (AV.int .i64) ([] : List Int))]),(4,.grow (AaJ (List.map AaA.av v23))),(5,.cells [Iz v25.From,Iz v25.To,Iz v25.Level])] 6 (by simp [F22]) (by simp [F22]) ?_;refine CF (by simp [F22]) ?_;refine AW.skip ?_;refine hK5759 _ _ _ ?_;refine RN h0 [(0,0),(1,1),(2,2),(3,3),(4,4)] [(3,AV.ptr 0 0),(4,AV.ptr 1 0),(5,Iz v10),(6,Iz v12),(7,Iz v14),(8,Iz v16),(9,Iz v17),(10,Iz v18),(11,Iz v20),(12,AV.ptr 3 0),(14,Iz v22)] [(0,.cells [Lz v4,Iz v13]),(1,.cells [Iz v6,AV.slc 2 0 3 v7.length false,Lz v8]),(2,.grow (AaJ (List.map AaA.av v7))),(3,.cells [Iz v6,AV.slc 4 0 3 v23.length false,AV.lst true true (List.map (AV.int .i64) ([] : List Int))]),(4,.grow (AaJ (List.map AaA.av v23)))] 5 (by simp [F22]) (by simp [F22]) ?_;exact JN (v23) hF (by simp [F22]) (by simp [F22])
           ·replace hF:=Aah h28 hF;have h28_:=Abg h28;have h28__:=Abi h28;have F23:=A5 F16 h27 h28 h28_ h28__;try simp [F23]
            and_intros <;> first | exact GK g | apply r | omega | (simp [maxLen,F23] <;> omega)
            refine WK [(3,AV.ptr 0 0),(4,AV.ptr 1 0),(5,Iz v10),(6,Iz v12),(7,Iz v14),(8,Iz v16),(9,Iz v17),(10,Iz v18),(11,Iz v20),(12,AV.ptr 3 0),(14,Iz v22),(15,AV.ptr 5 0),(129,AV.bool false)] [(0,.cells [Lz v4,Iz v13]),(1,.cells [Iz v6,AV.slc 2 0 3 v7.length false,Lz v8]),(2,.grow (AaJ (List.map AaA.av v7))),(3,.cells [Iz v6,AV.slc 4 0 3 v23.length false,AV.lst true true (List.map (AV.int .i64) ([] : List Int))]),(4,.grow (AaJ (List.map AaA.av v23))),(5,.cells [Iz v25.From,Iz v25.To,Iz v25.Level])] 6 (by simp [F23]) (by simp [F23]) ?_;refine CF (by simp [F23]) ?_;refine AW.skip ?_;refine hK5759 _ _ _ ?_;refine RN h0 [(0,0),(1,1),(2,2),(3,3),(4,4)] [(3,AV.ptr 0 0),(4,AV.ptr 1 0),(5,Iz v10),(6,Iz v12),(7,Iz v14),(8,Iz v16),(9,Iz v17),(10,Iz v18),(11,Iz v20),(12,AV.ptr 3 0),(14,Iz v22)] [(0,.cells [Lz v4,Iz v13]),(1,.cells [Iz v6,AV.slc 2 0 3 v7.length false,Lz v8]),(2,.grow (AaJ (List.map AaA.av v7))),(3,.cells [Iz v6,AV.slc 4 0 3 v23.length false,AV.lst true true (List.map (AV.int .i64) ([] : List Int))]),(4,.grow (AaJ (List.map AaA.av v23)))] 5 (by simp [F23]) (by simp [F23]) ?_;exact JN (v23) hF (by simp [F23]) (by simp [F23])
          ·rintro v24 hF
           try dsimp only at hF
           unfold AaF.J6 at hF;refine RG [] [none,none,none] fun _ _ g r=>?_;try simp [F15]
           and_intros <;> first | exact GK g | apply r | omega | (simp [maxLen,F15] <;> omega)
           refine hK5750 _ _ _ ?_;exact NX (k':=n5) ((IntKind.wrap .i64 (v22+1),v24)) hF (by simp [F15]) (by simp [F15])
         ·replace hF:=Aah h20 hF;have h20_:=h20;try simp at h20_
          have F24:=A3 F14 h20 h20_;refine CF (by simp [F24] <;> omega) ?_;refine AW.exit ?_;try simp
          refine hK5709 _ _ _ ?_;refine SQ [] [none,none,none,none,none] fun _ _ g r=>?_;try simp [F24]
          and_intros
          try any_goals first | omega | (simp [maxLen,F24] <;> omega)
          obtain ⟨v26,h35,hF⟩:=AaQ hF;refine Aa9 (Ago k _ _ _ _ _ _ h35) (by simp) [] [4] [] rfl (.cons (.agg (.cons (.same (by simp [F24])) (.cons (Coe.l (o := .grow (AaJ (List.map AaA.av v23))) (by simp [F24]) rfl (by simp [F24]) (by simp [Acz]) (by simp [F24]) (by simp [F24])) (.cons (Coe.fl (by simp [F24])) .nil)))) (.cons (.same (by simp [F24])) (.cons (.same (by simp [F24])) .nil))) (by simp [F24]) (by decide) (by simp) (by simp) (.inr ⟨by simp,by simp⟩) (by simp) (by simp) ?_;try simp [F24]
          and_intros <;> first | exact GK g | apply r | omega | (simp [maxLen,F24] <;> omega)
          refine WK [(3,AV.ptr 0 0),(4,AV.ptr 1 0),(5,Iz v10),(6,Iz v12),(7,Iz v14),(8,Iz v16),(9,Iz v17),(10,Iz v18),(11,Iz v20),(140,AV.bool (!v26))] [(0,.cells [Lz v4,Iz v13]),(1,.cells [Iz v6,AV.slc 2 0 3 v7.length false,Lz v8]),(2,.grow (AaJ (List.map AaA.av v7)))] 5 (by simp [F24]) (by simp [F24]) ?_;by_cases h36 : (!v26)=true
          ·replace hF:=Aag h36 hF;have h36_:=h36;try simp at h36_
           have F25:=A3 F24 h36 h36_;refine CT (by simp [F25] <;> omega) ?_;refine RG [] [none,none,none,none] fun _ _ g r=>?_;obtain ⟨v27,h37,hF⟩:=Aet hF;have h37_:=h37;try simp at h37_
           have F26:=A3 F25 h37 h37_;try simp [F26]
           and_intros <;> first | exact GK g | apply r | omega | (simp [maxLen,F26] <;> omega)
           refine hK5589 _ _ _ ?_;refine RN h0 [(0,0),(1,1),(2,2)] [(3,AV.ptr 0 0),(4,AV.ptr 1 0),(5,Iz v10),(6,Iz v12),(7,Iz v14),(8,Iz v16),(9,Iz v27),(10,Iz v18)] [(0,.cells [Lz v4,Iz v13]),(1,.cells [Iz v6,AV.slc 2 0 3 v7.length false,Lz v8]),(2,.grow (AaJ (List.map AaA.av v7)))] 3 (by simp [F26]) (by simp [F26]) ?_;exact JN (v27) hF (by simp [F26]) (by simp [F26])
          ·replace hF:=Aah h36 hF;have h36_:=h36;try simp at h36_
           have F27:=A3 F24 h36 h36_;refine CF (by simp [F27] <;> omega) ?_;refine AW.skip ?_;refine hK5589 _ _ _ ?_;refine RN h0 [(0,0),(1,1),(2,2)] [(3,AV.ptr 0 0),(4,AV.ptr 1 0),(5,Iz v10),(6,Iz v12),(7,Iz v14),(8,Iz v16),(9,Iz v17),(10,Iz v18)] [(0,.cells [Lz v4,Iz v13]),(1,.cells [Iz v6,AV.slc 2 0 3 v7.length false,Lz v8]),(2,.grow (AaJ (List.map AaA.av v7)))] 3 (by simp [F27]) (by simp [F27]) ?_;exact JN (v17) hF (by simp [F27]) (by simp [F27])
     ·rintro v19 hF
      try dsimp only at hF
      unfold AaF.J3 at hF;refine RG [] [none,none,none] fun _ _ g r=>?_;try simp [F7]
      and_intros <;> first | exact GK g | apply r | omega | (simp [maxLen,F7] <;> omega)
      refine hK5408 _ _ _ ?_;exact NX (k':=n2) ((v19,IntKind.wrap .i64 (v18+1))) hF (by simp [F7]) (by simp [F7])
    ·replace hF:=Aah h13 hF;have h13_:=h13;try simp at h13_
     have F28:=A4 F4 h12 h13 h13_;refine CF (by simp [F28] <;> omega) ?_;refine AW.exit ?_;try simp
     refine hK4335 _ _ _ ?_;refine WK [(3,AV.ptr 0 0),(4,AV.ptr 1 0),(5,Iz v10),(6,Iz v12),(7,Iz v14),(9,Iz v17)] [(0,.cells [Lz v4,Iz v13]),(1,.cells [Iz v6,AV.slc 2 0 3 v7.length false,Lz v8]),(2,.grow (AaJ (List.map AaA.av v7)))] 3 (by simp [F28]) (by simp [F28]) ?_;refine AW.frz 2 (o := .grow (AaJ (List.map AaA.av v7))) (by simp [F28]) rfl [] [(1,.cells [Iz v6,Q0 v7,Lz v8])] trivial ⟨⟨by simp,Aat.cells [Iz v6,AV.slc 2 0 3 v7.length false,Lz v8],by simp [F28],(.mk (.cons (.same _) (.cons (.l (by simp) (by simp) (by simp) (by simp)) (.cons (.same _) .nil))))⟩,trivial⟩ ?_;refine WK [(3,AV.ptr 0 0),(4,AV.ptr 1 0),(5,Iz v10),(6,Iz v12),(7,Iz v14),(9,Iz v17)] [(0,.cells [Lz v4,Iz v13]),(1,.cells [Iz v6,Q0 v7,Lz v8])] 3 (by simp [F28]) (by simp [F28]) ?_;refine SQ [] [none,none,none,none,none,none,none] fun _ _ g r=>?_;try simp [F28]
     and_intros
     try any_goals first | omega | (simp [maxLen,F28] <;> omega)
     obtain ⟨v28,v29,h38,hF⟩:=Abd hF;refine Aa9 (AbU k _ _ _ _ _ h38) (by simp) [0] [] [0] rfl (.cons (.same (by simp [F28])) (.cons (.same (by simp [F28])) .nil)) (by simp [F28]) (by decide) (by simp) (by simp) (.inl rfl) (by simp) (by simp) ?_;try simp [F28]
     and_intros
     try any_goals first | omega | (simp [maxLen,F28] <;> omega)
     obtain ⟨v30,h39,hF⟩:=AaQ hF;refine AC (Afd k _ _ _ _ _ _ _ _ h39) (.cons (.same (by simp [F28])) (.cons (.same (by simp [F28])) (.cons (.same (by simp [F28])) (.cons (.same (by simp [F28])) (.cons (.same (by simp [F28])) .nil))))) ?_;try simp [F28]
     and_intros <;> first | exact GK g | apply r | omega | (simp [maxLen,F28] <;> omega)
     refine WK [(4,AV.ptr 1 0),(5,Iz v10),(6,Iz v12),(7,Iz v14),(9,Iz v17),(16,AV.slc 3 0 1 v30.length false)] [(1,.cells [Iz v6,Q0 v7,Lz v8]),(3,.grow (List.map (sl (AV.int .i64)) v30))] 4 (by simp [F28]) (by simp [F28]) ?_;refine AW.frz 3 (o := .grow (List.map (sl (AV.int .i64)) v30)) (by simp [F28]) rfl [(16,AV.lst false false (List.map (sl (AV.int .i64)) v30))] [] ⟨(.l (by simp) (by simp) (by simp) (by simp)),trivial⟩ trivial ?_;refine WK [(4,AV.ptr 1 0),(5,Iz v10),(6,Iz v12),(7,Iz v14),(9,Iz v17),(16,AV.lst false false (List.map (sl (AV.int .i64)) v30))] [(1,.cells [Iz v6,Q0 v7,Lz v8])] 4 (by simp [F28]) (by simp [F28]) ?_;refine SQ [] [none,none,some (151,true),some (151,true),some (151,true),none,none,some (156,true),some (156,true),some (156,true),some (156,true),none,none,some (162,true),some (162,true),some (162,true),some (162,true),some (162,true),none,none] fun _ _ g r=>?_;try simp [F28]
     and_intros
     try any_goals first | omega | (simp [maxLen,F28] <;> omega)
     obtain ⟨v31,h40,hF⟩:=AaQ hF;refine AC (AeI k _ h40) .nil ?_;by_cases h41 : v31=true
     ·replace hF:=Aag h41 hF;have h41_:=h41;try simp at h41_
      by_cases h42 : v14=v17
      ·replace hF:=Aag h42 hF;have h42q : v14=v17:=h42;have h42_:=Abm h42q;have h42__:=Abl h42q;by_cases h43 : (v30.length : Int)≤v14
       ·replace hF:=Aag h43 hF;have h43_:=h43;try simp at h43_
        have F29:=A7 F28 h41 h41_ h42_ h42__ h43 h43_;try simp [F29]
        and_intros
        try any_goals first | omega | (simp [maxLen,F29] <;> omega)
        obtain ⟨v32,h44,hF⟩:=AaQ hF;refine AC (AeH k _ _ _ _ _ _ _ _ h44) (.cons (.same (by simp [F29])) (.cons (.same (by simp [F29])) (.cons (.same (by simp [F29])) (.cons (.same (by simp [F29])) (.cons (.same (by simp [F29])) .nil))))) ?_;try simp [F29]
        and_intros <;> first | exact GK g | apply r | omega | (simp [maxLen,F29] <;> omega)
        refine WK [(2,AV.bool v32)] [] 4 (by simp [F29]) (by simp [F29]) ?_;simp only [Option.some.injEq] at hF;subst hF;refine AW.ret (hQ _ _ _ ?_ (AaI ?_)).1
        ·simp [Try.f7,F29]
        ·simp [F29]
       ·replace hF:=Aah h43 hF;have h43_:=h43;try simp at h43_
        have F30:=A7 F28 h41 h41_ h42_ h42__ h43 h43_;try simp [F30]
        and_intros <;> first | exact GK g | apply r | omega | (simp [maxLen,F30] <;> omega)
        refine WK [(2,AV.bool false)] [] 4 (by simp [F30]) (by simp [F30]) ?_;simp only [Option.some.injEq] at hF;subst hF;refine AW.ret (hQ _ _ _ ?_ (AaI ?_)).1
        ·simp [Try.f7,F30]
        ·simp [F30]
      ·replace hF:=Aah h42 hF;have h42_:=Abg h42;have h42__:=Abi h42;have F31:=A6 F28 h41 h41_ h42 h42_ h42__;try simp [F31]
       and_intros <;> first | exact GK g | apply r | omega | (simp [maxLen,F31] <;> omega)
       refine WK [(2,AV.bool false)] [] 4 (by simp [F31]) (by simp [F31]) ?_;simp only [Option.some.injEq] at hF;subst hF;refine AW.ret (hQ _ _ _ ?_ (AaI ?_)).1
       ·simp [Try.f7,F31]
       ·simp [F31]
     ·replace hF:=Aah h41 hF;have h41_:=h41;try simp at h41_
      have F32:=A3 F28 h41 h41_;try simp [F32]
      and_intros <;> first | exact GK g | apply r | omega | (simp [maxLen,F32] <;> omega)
      refine WK [(2,AV.bool false)] [] 4 (by simp [F32]) (by simp [F32]) ?_;simp only [Option.some.injEq] at hF;subst hF;refine AW.ret (hQ _ _ _ ?_ (AaI ?_)).1
      ·simp [Try.f7,F32]
      ·simp [F32]
end Go.TF
