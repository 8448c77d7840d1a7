import Derived.Test.YtelffnegemdicaaPmzWal29
import Derived.Test.YtelffnegemdicaaPmzWal30
import Derived.Test.YtelffnegemdicaaPmzWal34
set_option linter.unusedVariables false
set_option linter.unusedSimpArgs false
set_option maxRecDepth 100000
set_option maxHeartbeats 4000000
namespace Go.TF
open Go Go.Abs Go.Proofs Go.Proofs.YtelffnegemdicaaPmT
theorem Ahg (k : Nat) (v0 : Int) (v1 : (List AaB)) (v2 : (List Int)) (v3 : Int) (v4 : Int) (v5 : Int) (v6 : Bool) (hF : Aa7 k v0 v1 v2 v3 v4=some (v5,v6)) :
 AbC Try.prog 64 [AV.agg [AV.int .i64 v0,Q0 v1,AV.lst false false (List.map (AV.int .i64) v2)],AV.int .i64 v3,AV.int .i64 v4] [] (AV.tup [AV.int .i64 v5,AV.bool v6]) []:=by
 unfold Aa7 at hF;refine EN Try.func64 ?_;intro c0 w0 Q h0 hQ
 refine WK [(0,AV.agg [Iz v0,Q0 v1,Lz v2]),(1,Iz v3),(2,Iz v4)] [] 0 (by simp) (by simp) ?_;refine SQ [] [none,none,none] fun _ _ g r=>?_;try simp
 and_intros <;> first | exact GK g | apply r | omega | (simp [maxLen] <;> omega)
 refine WK [(1,Iz v3),(2,Iz v4),(3,AV.ptr 0 0)] [(0,.cells [Iz v0,Q0 v1,Lz v2])] 1 (by simp) (by simp) ?_;refine SQ [] [none] fun _ _ g r=>?_;try simp
 and_intros <;> first | exact GK g | apply r | omega | (simp [maxLen] <;> omega)
 refine WK [(1,Iz v3),(2,Iz v4),(3,AV.ptr 0 0),(8,Iz 0)] [(0,.cells [Iz v0,Q0 v1,Lz v2])] 1 (by simp) (by simp) ?_;refine AW.midF (α:=Int) (fun v7=>Aa7.J1 k v1 v3 v4 v7=some (v5,v6)) (fun v7=>[(1,Iz v3),(2,Iz v4),(3,AV.ptr 0 0),(8,Iz v7)]) (fun v7=>[(0,.cells [Iz v0,Q0 v1,Lz v2])]) 1 (fun K59 hK59=>?_) ?_
 ·refine AW.block ?_;refine AW.loopF (α:=Int) (fun n v9=>Aa7.L2 k v1 v3 v4 n v9=some (v5,v6)) (fun v9=>[(1,Iz v3),(2,Iz v4),(3,AV.ptr 0 0),(8,Iz v9)]) (fun v9=>[(0,.cells [Iz v0,Q0 v1,Lz v2])]) 1 k (0) hF (by simp) (by simp) (by simp) ?_;rintro (_|n2) v9 hF K72 hK72
  ·try dsimp only at hF
   rw [Aa7.L2] at hF; cases hF
  try dsimp only at hF
  rw [Aa7.L2] at hF;refine AW.seq fun K74 hK74=>?_;refine SQ [] [none,none,none,none,none,none,some (14,true),some (14,true),some (14,true),some (14,true),some (14,true),some (14,true),some (14,true),some (14,true),some (14,true),none] fun _ _ g r=>?_;by_cases h6 : v9<(v1.length : Int)
  ·replace hF:=Aad h6 hF;have h6_:=h6;try simp at h6_
   obtain ⟨v10,h7,h8,h9,hF⟩:=Aag hF;have h9_:=Aay h9;try simp at h9_
   have h8_:=h8;try simp at h8_
   have F1:=A7 h6 h6_ h7 h8 h9 h9_ h8_;try simp [F1]
   and_intros
   try any_goals first | omega | (simp [maxLen,F1] <;> omega)
   obtain ⟨v11,h10,hF⟩:=AaN hF;refine AC (Ae2 k _ _ _ _ _ _ _ h10) (.cons (.same (by simp [F1])) (.cons (.same (by simp [F1])) .nil)) ?_;try simp [F1]
   and_intros <;> first | exact GK g | apply r | omega | (simp [maxLen,F1] <;> omega)
   refine WK [(1,Iz v3),(2,Iz v4),(3,AV.ptr 0 0),(8,Iz v9),(24,AV.bool v11)] [(0,.cells [Iz v0,Q0 v1,Lz v2])] 1 (by simp [F1]) (by simp [F1]) ?_;by_cases h11 : v11=true
   ·replace hF:=Aad h11 hF;have h11_:=h11;try simp at h11_
    have F2:=A3 F1 h11 h11_;refine CT (by simp [F2] <;> omega) ?_;refine AW.skip ?_;refine hK74 _ _ _ ?_;refine AW.block ?_;refine RG [] [none,none,none] fun _ _ g r=>?_;try simp [F2]
    and_intros <;> first | exact GK g | apply r | omega | (simp [maxLen,F2] <;> omega)
    refine hK72 _ _ _ ?_;exact NX (k':=n2) (IntKind.wrap .i64 (v9+1)) hF (by simp [F2]) (by simp [F2])
   ·replace hF:=Aae h11 hF;have h11_:=h11;try simp at h11_
    have F3:=A3 F1 h11 h11_;refine CF (by simp [F3] <;> omega) ?_;refine AW.exit ?_;try simp
    refine hK59 _ _ _ ?_;exact JN (v9) hF (by simp [F3]) (by simp [F3])
  ·replace hF:=Aae h6 hF;have h6_:=h6;try simp at h6_
   try simp [h6,h6_]
   and_intros <;> first | exact GK g | apply r | omega | (simp [h6,h6_,maxLen] <;> omega)
   refine WK [(1,Iz v3),(2,Iz v4),(3,AV.ptr 0 0),(8,Iz v9),(24,AV.bool false)] [(0,.cells [Iz v0,Q0 v1,Lz v2])] 1 (by simp [h6,h6_]) (by simp [h6,h6_]) ?_;refine CF (by simp [h6,h6_]) ?_;refine AW.exit ?_;try simp
   refine hK59 _ _ _ ?_;exact JN (v9) hF (by simp [h6,h6_]) (by simp [h6,h6_])
 ·rintro v7 hF
  try dsimp only at hF
  unfold Aa7.J1 at hF;refine SQ [] [none,none,none,none,none,none,none,some (33,true),some (33,true),some (33,true),some (33,true),some (33,true),some (33,true),some (33,true),some (33,true),none,none,some (43,true),some (43,true),some (43,true),some (43,true),some (43,true),some (43,true),some (43,true),some (43,true),none,none,none] fun _ _ g r=>?_;by_cases h1 : v7<(v1.length : Int)
  ·replace hF:=Aad h1 hF;have h1_:=h1;try simp at h1_
   obtain ⟨v8,h2,h3,h4,hF⟩:=Aag hF;have h4_:=Aay h4;try simp at h4_
   have h3_:=h3;try simp at h3_
   by_cases h5 : v8.From=v3
   ·replace hF:=Aad h5 hF;have h5q : v8.From=v3:=h5;have h5_:=Abo h5q;have h5__:=Abn h5q;have F4:=A9 h1 h1_ h2 h3 h4 h4_ h3_ h5_ h5__;try simp [F4]
    and_intros <;> first | exact GK g | apply r | omega | (simp [maxLen,F4] <;> omega)
    refine WK [(6,Iz v7),(7,AV.bool (v8.To==v4))] [] 1 (by simp [F4]) (by simp [F4]) ?_;simp only [Option.some.injEq,Prod.mk.injEq] at hF;obtain ⟨e0,e1⟩:=hF;subst e0 e1;refine AW.ret (hQ _ _ _ ?_ (AaG ?_)).1
    ·simp [Try.f64,F4]
    ·simp [F4]
   ·replace hF:=Aae h5 hF;have h5_:=Abi h5;have h5__:=Abj h5;have F5:=A9 h1 h1_ h2 h3 h4 h4_ h3_ h5 (A2 h5_ h5__);try simp [F5]
    and_intros <;> first | exact GK g | apply r | omega | (simp [maxLen,F5] <;> omega)
    refine WK [(6,Iz v7),(7,AV.bool false)] [] 1 (by simp [F5]) (by simp [F5]) ?_;simp only [Option.some.injEq,Prod.mk.injEq] at hF;obtain ⟨e0,e1⟩:=hF;subst e0 e1;refine AW.ret (hQ _ _ _ ?_ (AaG ?_)).1
    ·simp [Try.f64,F5]
    ·simp [F5]
  ·replace hF:=Aae h1 hF;have h1_:=h1;try simp at h1_
   try simp [h1,h1_]
   and_intros <;> first | exact GK g | apply r | omega | (simp [h1,h1_,maxLen] <;> omega)
   refine WK [(6,Iz v7),(7,AV.bool false)] [] 1 (by simp [h1,h1_]) (by simp [h1,h1_]) ?_;simp only [Option.some.injEq,Prod.mk.injEq] at hF;obtain ⟨e0,e1⟩:=hF;subst e0 e1;refine AW.ret (hQ _ _ _ ?_ (AaG ?_)).1
   ·simp [Try.f64,h1,h1_]
   ·simp [h1,h1_]
theorem AiM (k : Nat) (v0 : Int) (v1 : (List AaB)) (v2 : (List Int)) (v3 : Int) (v4 : (List AaB)) (v5 : (List Int)) (hF : Aen k v0 v1 v2=some (v3,v4,v5)) :
 AbC Try.prog 56 [AV.agg [AV.int .i64 v0,Q0 v1,AV.lst false false (List.map (AV.int .i64) v2)]] [] (AV.agg [AV.int .i64 v3,Q0 v4,AV.lst false false (List.map (AV.int .i64) v5)]) []:=by
 unfold Aen at hF;refine EN Try.func56 ?_;intro c0 w0 Q h0 hQ
 refine WK [(0,AV.agg [Iz v0,Q0 v1,Lz v2])] [] 0 (by simp) (by simp) ?_;refine SQ [] [none,none] fun _ _ g r=>?_;try simp
 and_intros <;> first | exact GK g | apply r | omega | (simp [maxLen] <;> omega)
 refine WK [(1,AV.ptr 0 0),(2,AV.ptr 1 0)] [(0,.cells [Iz v0,Q0 v1,Lz v2]),(1,.cells [Iz 0,AV.lst true true (List.map AaB.av ([] : List AaB)),AV.lst true true (List.map (AV.int .i64) ([] : List Int))])] 2 (by simp) (by simp) ?_;refine SQ [7,10] [none,none,none,none,none,none,none,none,none,none] fun _ _ g r=>?_;obtain ⟨h1,hF⟩:=AaY hF;have h1_:=h1;try simp at h1_
 obtain ⟨h2,hF⟩:=AaY hF;have h2_:=h2;try simp at h2_
 try simp [h1,h2]
 and_intros <;> first | exact GK g | apply r | omega | (simp [h1,h2,maxLen] <;> omega)
 refine WK [(2,AV.ptr 1 0)] [(1,.cells [Iz v0,AV.slc 2 0 3 v1.length false,AV.slc 3 0 1 v2.length false]),(2,.grow (AaK (List.map AaB.av v1))),(3,Gi v2)] 4 (by simp [h1,h2]) (by simp [h1,h2]) ?_;refine AW.frz 2 (o := .grow (AaK (List.map AaB.av v1))) (by simp [h1,h2]) rfl [] [(1,.cells [Iz v0,Q0 v1,AV.slc 3 0 1 v2.length false])] trivial ⟨⟨by simp,Aap.cells [Iz v0,AV.slc 2 0 3 v1.length false,AV.slc 3 0 1 v2.length false],by simp [h1,h2],(.mk (.cons (.same _) (.cons (.l (by simp) (by simp) (by simp) (by simp)) (.cons (.same _) .nil))))⟩,trivial⟩ ?_;refine AW.frz 3 (o:=Gi v2) (by simp [h1,h2]) rfl [] [(1,.cells [Iz v0,Q0 v1,Lz v2])] trivial ⟨⟨by simp,Aap.cells [Iz v0,Q0 v1,AV.slc 3 0 1 v2.length false],by simp [h1,h2],(.mk (.cons (.same _) (.cons (.same _) (.cons (.l (by simp) (by simp) (by simp) (by simp)) .nil))))⟩,trivial⟩ ?_;refine RM h0 [(0,1)] [(2,AV.ptr 0 0)] [(0,.cells [Iz v0,Q0 v1,Lz v2])] 1 (by simp [h1,h2]) (by simp [h1,h2]) ?_;simp only [Option.some.injEq,Prod.mk.injEq] at hF;obtain ⟨e0,e1,e2⟩:=hF;subst e0 e1 e2;refine AW.ret (hQ _ _ _ ?_ (AaG ?_)).1
 ·simp [Try.f56,h1,h2]
 ·simp [h1,h2]
abbrev Aac  : Aap := .cells [Iz 0,AV.lst true true (List.map AaB.av ([] : List AaB)),AV.lst true true (List.map (AV.int .i64) ([] : List Int))]
abbrev AbV  : Aap := .cells [Iz 0,Q0 ([] : List AaB),Lz ([] : List Int)]
theorem AgD (k : Nat) (v0 : Int) (v1 : (List AaB)) (v2 : (List Int)) (v3 : Int) (v4 : Int) (v5 : Int) (v6 : Int) (v7 : (List AaB)) (v8 : (List Int)) (v9 : Int) (hF : AdR k v0 v1 v2 v3 v4 v5=some (v6,v7,v8,v9)) :
 AbC Try.prog 35 [AV.agg [AV.int .i64 v0,Q0 v1,AV.lst false false (List.map (AV.int .i64) v2)],AV.agg [AV.int .i64 v3,AV.int .i64 v4,AV.int .i64 v5]] [] (AV.tup [AV.agg [AV.int .i64 v6,Q0 v7,AV.lst false false (List.map (AV.int .i64) v8)],AV.int .i64 v9]) []:=by
 unfold AdR at hF;refine EN Try.func35 ?_;intro c0 w0 Q h0 hQ
 refine WK [(0,AV.agg [Iz v0,Q0 v1,Lz v2]),(1,AV.agg [Iz v3,Iz v4,Iz v5])] [] 0 (by simp) (by simp) ?_;refine SQ [] [none,none,none,none] fun _ _ g r=>?_;try simp
 and_intros <;> first | exact GK g | apply r | omega | (simp [maxLen] <;> omega)
 refine WK [(2,AV.ptr 0 0),(3,AV.ptr 1 0),(4,AV.ptr 2 0)] [(0,.cells [Iz v0,Q0 v1,Lz v2]),(1,.cells [Iz v3,Iz v4,Iz v5]),(2,Aac )] 3 (by simp) (by simp) ?_;refine AW.seq fun K45 hK45=>?_;refine SQ [] [none,none,none] fun _ _ g r=>?_;try simp
 and_intros
 try any_goals first | omega | (simp [maxLen] <;> omega)
 obtain ⟨v10,h1,hF⟩:=AaN hF;refine AC (Ahh k _ _ _ _ h1) (.cons (.same (by simp)) .nil) ?_;try simp
 and_intros <;> first | exact GK g | apply r | omega | (simp [maxLen] <;> omega)
 refine WK [(2,AV.ptr 0 0),(3,AV.ptr 1 0),(4,AV.ptr 2 0),(11,AV.bool (v10 !=0))] [(0,.cells [Iz v0,Q0 v1,Lz v2]),(1,.cells [Iz v3,Iz v4,Iz v5]),(2,Aac )] 3 (by simp) (by simp) ?_;by_cases h2 : v10≠0
 ·replace hF:=Aad h2 hF;have h2_:=Abi h2;have h2__:=Abj h2;have F1:=A3 h2 h2_ h2__;refine CT (by simp [F1] <;> omega) ?_;refine SQ [] [none,none,none] fun _ _ g r=>?_;try simp [F1]
  and_intros <;> first | exact GK g | apply r | omega | (simp [maxLen,F1] <;> omega)
  refine RM h0 [(0,2)] [(4,AV.ptr 0 0),(5,Iz 14)] [(0,Aac )] 1 (by simp [F1]) (by simp [F1]) ?_;refine AW.flg [] [(0,AbV )] trivial ⟨⟨(Aac ),by simp [F1],(.mk (.cons (.same _) (.cons (.lst (by simp)) (.cons (.lst (by simp)) .nil))))⟩,trivial⟩ (by simp) ?_;simp only [Option.some.injEq,Prod.mk.injEq] at hF;obtain ⟨e0,e1,e2,e3⟩:=hF;subst e0 e1 e2 e3;refine AW.ret (hQ _ _ _ ?_ (AaG ?_)).1
  ·simp [Try.f35,F1]
  ·simp [F1]
 ·replace hF:=Aae h2 hF;have h2q : v10=0:=Classical.not_not.1 h2;have h2_:=Abo h2q;have h2__:=Abn h2q;have F2:=A3 h2_ h2__ h2q;refine CF (by simp [F2] <;> omega) ?_;refine AW.skip ?_;refine hK45 _ _ _ ?_;refine SQ [] [none,none,none,none,none,none,none,none,none,none,none] fun _ _ g r=>?_;try simp [F2]
  and_intros
  try any_goals first | omega | (simp [maxLen,F2] <;> omega)
  obtain ⟨v11,v12,h3,hF⟩:=AbN hF;refine AC (Ahg k _ _ _ _ _ _ _ h3) (.cons (.same (by simp [F2])) (.cons (.same (by simp [F2])) (.cons (.same (by simp [F2])) .nil))) ?_;try simp [F2]
  and_intros <;> first | exact GK g | apply r | omega | (simp [maxLen,F2] <;> omega)
  refine WK [(2,AV.ptr 0 0),(3,AV.ptr 1 0),(4,AV.ptr 2 0),(6,Iz v11),(7,AV.bool v12)] [(0,.cells [Iz v0,Q0 v1,Lz v2]),(1,.cells [Iz v3,Iz v4,Iz v5]),(2,Aac )] 3 (by simp [F2]) (by simp [F2]) ?_;refine AW.seq fun K64 hK64=>?_;refine AW.block ?_;refine SQ [] [none,none,none,none,some (26,false),some (26,false),some (26,false),some (26,false),some (26,false),none,none,some (33,false),some (33,false),some (33,false),none,none,some (38,false),some (38,false),some (38,false),some (38,false),some (38,false),none,none,some (45,false),some (45,false),some (45,false),some (45,false),some (45,false),none,none,some (52,false),some (52,false),some (52,false),some (52,false),some (52,false),none,none,some (59,false),some (59,false),some (59,false),some (59,false),some (59,false),none,none] fun _ _ g r=>?_;by_cases h4 : v3<0
  ·replace hF:=Aad h4 hF;have h4_:=h4;try simp at h4_
   have F3:=A3 F2 h4 h4_;try simp [F3]
   and_intros <;> first | exact GK g | apply r | omega | (simp [maxLen,F3] <;> omega)
   refine WK [(2,AV.ptr 0 0),(3,AV.ptr 1 0),(4,AV.ptr 2 0),(6,Iz v11),(7,AV.bool v12),(22,AV.bool true)] [(0,.cells [Iz v0,Q0 v1,Lz v2]),(1,.cells [Iz v3,Iz v4,Iz v5]),(2,Aac )] 3 (by simp [F3]) (by simp [F3]) ?_;refine CT (by simp [F3]) ?_;refine SQ [] [none,none,none] fun _ _ g r=>?_;try simp [F3]
   and_intros <;> first | exact GK g | apply r | omega | (simp [maxLen,F3] <;> omega)
   refine RM h0 [(0,2)] [(4,AV.ptr 0 0),(5,Iz 4)] [(0,Aac )] 1 (by simp [F3]) (by simp [F3]) ?_;refine AW.flg [] [(0,AbV )] trivial ⟨⟨(Aac ),by simp [F3],(.mk (.cons (.same _) (.cons (.lst (by simp)) (.cons (.lst (by simp)) .nil))))⟩,trivial⟩ (by simp) ?_;simp only [Option.some.injEq,Prod.mk.injEq] at hF;obtain ⟨e0,e1,e2,e3⟩:=hF;subst e0 e1 e2 e3;refine AW.ret (hQ _ _ _ ?_ (AaG ?_)).1
   ·simp [Try.f35,F3]
   ·simp [F3]
  ·replace hF:=Aae h4 hF;have h4_:=h4;try simp at h4_
   by_cases h5 : v0≤v3
   ·replace hF:=Aad h5 hF;have h5_:=h5;try simp at h5_
    have F4:=A5 F2 h4 h4_ h5 h5_;try simp [F4]
    and_intros <;> first | exact GK g | apply r | omega | (simp [maxLen,F4] <;> omega)
    refine WK [(2,AV.ptr 0 0),(3,AV.ptr 1 0),(4,AV.ptr 2 0),(6,Iz v11),(7,AV.bool v12),(22,AV.bool true)] [(0,.cells [Iz v0,Q0 v1,Lz v2]),(1,.cells [Iz v3,Iz v4,Iz v5]),(2,Aac )] 3 (by simp [F4]) (by simp [F4]) ?_;refine CT (by simp [F4]) ?_;refine SQ [] [none,none,none] fun _ _ g r=>?_;try simp [F4]
    and_intros <;> first | exact GK g | apply r | omega | (simp [maxLen,F4] <;> omega)
    refine RM h0 [(0,2)] [(4,AV.ptr 0 0),(5,Iz 4)] [(0,Aac )] 1 (by simp [F4]) (by simp [F4]) ?_;refine AW.flg [] [(0,AbV )] trivial ⟨⟨(Aac ),by simp [F4],(.mk (.cons (.same _) (.cons (.lst (by simp)) (.cons (.lst (by simp)) .nil))))⟩,trivial⟩ (by simp) ?_;simp only [Option.some.injEq,Prod.mk.injEq] at hF;obtain ⟨e0,e1,e2,e3⟩:=hF;subst e0 e1 e2 e3;refine AW.ret (hQ _ _ _ ?_ (AaG ?_)).1
    ·simp [Try.f35,F4]
    ·simp [F4]
   ·replace hF:=Aae h5 hF;have h5_:=h5;try simp at h5_
    by_cases h6 : v4<0
    ·replace hF:=Aad h6 hF;have h6_:=h6;try simp at h6_
     have F5:=A7 F2 h4 h4_ h5 h5_ h6 h6_;try simp [F5]
     and_intros <;> first | exact GK g | apply r | omega | (simp [maxLen,F5] <;> omega)
     refine WK [(2,AV.ptr 0 0),(3,AV.ptr 1 0),(4,AV.ptr 2 0),(6,Iz v11),(7,AV.bool v12),(22,AV.bool true)] [(0,.cells [Iz v0,Q0 v1,Lz v2]),(1,.cells [Iz v3,Iz v4,Iz v5]),(2,Aac )] 3 (by simp [F5]) (by simp [F5]) ?_;refine CT (by simp [F5]) ?_;refine SQ [] [none,none,none] fun _ _ g r=>?_;try simp [F5]
     and_intros <;> first | exact GK g | apply r | omega | (simp [maxLen,F5] <;> omega)
     refine RM h0 [(0,2)] [(4,AV.ptr 0 0),(5,Iz 4)] [(0,Aac )] 1 (by simp [F5]) (by simp [F5]) ?_;refine AW.flg [] [(0,AbV )] trivial ⟨⟨(Aac ),by simp [F5],(.mk (.cons (.same _) (.cons (.lst (by simp)) (.cons (.lst (by simp)) .nil))))⟩,trivial⟩ (by simp) ?_;simp only [Option.some.injEq,Prod.mk.injEq] at hF;obtain ⟨e0,e1,e2,e3⟩:=hF;subst e0 e1 e2 e3;refine AW.ret (hQ _ _ _ ?_ (AaG ?_)).1
     ·simp [Try.f35,F5]
     ·simp [F5]
    ·replace hF:=Aae h6 hF;have h6_:=h6;try simp at h6_
     by_cases h7 : v0≤v4
     ·replace hF:=Aad h7 hF;have h7_:=h7;try simp at h7_
      have F6:=A9 F2 h4 h4_ h5 h5_ h6 h6_ h7 h7_;try simp [F6]
      and_intros <;> first | exact GK g | apply r | omega | (simp [maxLen,F6] <;> omega)
      refine WK [(2,AV.ptr 0 0),(3,AV.ptr 1 0),(4,AV.ptr 2 0),(6,Iz v11),(7,AV.bool v12),(22,AV.bool true)] [(0,.cells [Iz v0,Q0 v1,Lz v2]),(1,.cells [Iz v3,Iz v4,Iz v5]),(2,Aac )] 3 (by simp [F6]) (by simp [F6]) ?_;refine CT (by simp [F6]) ?_;refine SQ [] [none,none,none] fun _ _ g r=>?_;try simp [F6]
      and_intros <;> first | exact GK g | apply r | omega | (simp [maxLen,F6] <;> omega)
      refine RM h0 [(0,2)] [(4,AV.ptr 0 0),(5,Iz 4)] [(0,Aac )] 1 (by simp [F6]) (by simp [F6]) ?_;refine AW.flg [] [(0,AbV )] trivial ⟨⟨(Aac ),by simp [F6],(.mk (.cons (.same _) (.cons (.lst (by simp)) (.cons (.lst (by simp)) .nil))))⟩,trivial⟩ (by simp) ?_;simp only [Option.some.injEq,Prod.mk.injEq] at hF;obtain ⟨e0,e1,e2,e3⟩:=hF;subst e0 e1 e2 e3;refine AW.ret (hQ _ _ _ ?_ (AaG ?_)).1
      ·simp [Try.f35,F6]
      ·simp [F6]
     ·replace hF:=Aae h7 hF;have h7_:=h7;try simp at h7_
      by_cases h8 : v3=v4
      ·replace hF:=Aad h8 hF;have h8q : v3=v4:=h8;have h8_:=Abo h8q;have h8__:=Abn h8q;have F7:=A9 F2 h4 h4_ h5 h5_ h6 h6_ h7 (A3 h7_ h8_ h8__);try simp [F7]
       and_intros <;> first | exact GK g | apply r | omega | (simp [maxLen,F7] <;> omega)
       refine WK [(2,AV.ptr 0 0),(3,AV.ptr 1 0),(4,AV.ptr 2 0),(6,Iz v11),(7,AV.bool v12),(22,AV.bool true)] [(0,.cells [Iz v0,Q0 v1,Lz v2]),(1,.cells [Iz v3,Iz v4,Iz v5]),(2,Aac )] 3 (by simp [F7]) (by simp [F7]) ?_;refine CT (by simp [F7]) ?_;refine SQ [] [none,none,none] fun _ _ g r=>?_;try simp [F7]
       and_intros <;> first | exact GK g | apply r | omega | (simp [maxLen,F7] <;> omega)
       refine RM h0 [(0,2)] [(4,AV.ptr 0 0),(5,Iz 4)] [(0,Aac )] 1 (by simp [F7]) (by simp [F7]) ?_;refine AW.flg [] [(0,AbV )] trivial ⟨⟨(Aac ),by simp [F7],(.mk (.cons (.same _) (.cons (.lst (by simp)) (.cons (.lst (by simp)) .nil))))⟩,trivial⟩ (by simp) ?_;simp only [Option.some.injEq,Prod.mk.injEq] at hF;obtain ⟨e0,e1,e2,e3⟩:=hF;subst e0 e1 e2 e3;refine AW.ret (hQ _ _ _ ?_ (AaG ?_)).1
       ·simp [Try.f35,F7]
       ·simp [F7]
      ·replace hF:=Aae h8 hF;have h8_:=Abi h8;have h8__:=Abj h8;have F8:=A9 F2 h4 h4_ h5 h5_ h6 h6_ h7 (A4 h7_ h8 h8_ h8__);try simp [F8]
       and_intros
       try any_goals first | omega | (simp [maxLen,F8] <;> omega)
       obtain ⟨v13,h9,hF⟩:=AaN hF;refine AC (Ac0 k _ _ _ h9) (.cons (.same (by simp [F8])) (.cons (.same (by simp [F8])) .nil)) ?_;by_cases h10 : v13=true
       ·replace hF:=Aad h10 hF;have h10_:=h10;try simp at h10_
        have F9:=A3 F8 h10 h10_;try simp [F9]
        and_intros <;> first | exact GK g | apply r | omega | (simp [maxLen,F9] <;> omega)
        refine WK [(2,AV.ptr 0 0),(3,AV.ptr 1 0),(4,AV.ptr 2 0),(6,Iz v11),(7,AV.bool v12),(22,AV.bool true)] [(0,.cells [Iz v0,Q0 v1,Lz v2]),(1,.cells [Iz v3,Iz v4,Iz v5]),(2,Aac )] 3 (by simp [F9]) (by simp [F9]) ?_;refine CT (by simp [F9]) ?_;refine SQ [] [none,none,none] fun _ _ g r=>?_;try simp [F9]
        and_intros <;> first | exact GK g | apply r | omega | (simp [maxLen,F9] <;> omega)
        refine RM h0 [(0,2)] [(4,AV.ptr 0 0),(5,Iz 4)] [(0,Aac )] 1 (by simp [F9]) (by simp [F9]) ?_;refine AW.flg [] [(0,AbV )] trivial ⟨⟨(Aac ),by simp [F9],(.mk (.cons (.same _) (.cons (.lst (by simp)) (.cons (.lst (by simp)) .nil))))⟩,trivial⟩ (by simp) ?_;simp only [Option.some.injEq,Prod.mk.injEq] at hF;obtain ⟨e0,e1,e2,e3⟩:=hF;subst e0 e1 e2 e3;refine AW.ret (hQ _ _ _ ?_ (AaG ?_)).1
        ·simp [Try.f35,F9]
        ·simp [F9]
       ·replace hF:=Aae h10 hF;have h10_:=h10;try simp at h10_
        have F10:=A3 F8 h10 h10_;try simp [F10]
        and_intros
        try any_goals first | omega | (simp [maxLen,F10] <;> omega)
        obtain ⟨v14,h11,hF⟩:=AaN hF;refine AC (Ac0 k _ _ _ h11) (.cons (.same (by simp [F10])) (.cons (.same (by simp [F10])) .nil)) ?_;try simp [F10]
        and_intros <;> first | exact GK g | apply r | omega | (simp [maxLen,F10] <;> omega)
        refine WK [(2,AV.ptr 0 0),(3,AV.ptr 1 0),(4,AV.ptr 2 0),(6,Iz v11),(7,AV.bool v12),(22,AV.bool v14)] [(0,.cells [Iz v0,Q0 v1,Lz v2]),(1,.cells [Iz v3,Iz v4,Iz v5]),(2,Aac )] 3 (by simp [F10]) (by simp [F10]) ?_;by_cases h12 : v14=true
        ·replace hF:=Aad h12 hF;have h12_:=h12;try simp at h12_
         have F11:=A3 F10 h12 h12_;refine CT (by simp [F11] <;> omega) ?_;refine SQ [] [none,none,none] fun _ _ g r=>?_;try simp [F11]
         and_intros <;> first | exact GK g | apply r | omega | (simp [maxLen,F11] <;> omega)
         refine RM h0 [(0,2)] [(4,AV.ptr 0 0),(5,Iz 4)] [(0,Aac )] 1 (by simp [F11]) (by simp [F11]) ?_;refine AW.flg [] [(0,AbV )] trivial ⟨⟨(Aac ),by simp [F11],(.mk (.cons (.same _) (.cons (.lst (by simp)) (.cons (.lst (by simp)) .nil))))⟩,trivial⟩ (by simp) ?_;simp only [Option.some.injEq,Prod.mk.injEq] at hF;obtain ⟨e0,e1,e2,e3⟩:=hF;subst e0 e1 e2 e3;refine AW.ret (hQ _ _ _ ?_ (AaG ?_)).1
         ·simp [Try.f35,F11]
         ·simp [F11]
        ·replace hF:=Aae h12 hF;have h12_:=h12;try simp at h12_
         have F12:=A3 F10 h12 h12_;refine CF (by simp [F12] <;> omega) ?_;refine SQ [] [none,none,none,none,some (71,false),some (71,false),some (71,false),none,none] fun _ _ g r=>?_;by_cases h13 : v5<1
         ·replace hF:=Aad h13 hF;have h13_:=h13;try simp at h13_
          have F13:=A3 F12 h13 h13_;try simp [F13]
          and_intros <;> first | exact GK g | apply r | omega | (simp [maxLen,F13] <;> omega)
          refine WK [(2,AV.ptr 0 0),(3,AV.ptr 1 0),(4,AV.ptr 2 0),(6,Iz v11),(7,AV.bool v12),(67,AV.bool true)] [(0,.cells [Iz v0,Q0 v1,Lz v2]),(1,.cells [Iz v3,Iz v4,Iz v5]),(2,Aac )] 3 (by simp [F13]) (by simp [F13]) ?_;refine CT (by simp [F13]) ?_;refine SQ [] [none,none,none] fun _ _ g r=>?_;try simp [F13]
          and_intros <;> first | exact GK g | apply r | omega | (simp [maxLen,F13] <;> omega)
          refine RM h0 [(0,2)] [(4,AV.ptr 0 0),(5,Iz 2)] [(0,Aac )] 1 (by simp [F13]) (by simp [F13]) ?_;refine AW.flg [] [(0,AbV )] trivial ⟨⟨(Aac ),by simp [F13],(.mk (.cons (.same _) (.cons (.lst (by simp)) (.cons (.lst (by simp)) .nil))))⟩,trivial⟩ (by simp) ?_;simp only [Option.some.injEq,Prod.mk.injEq] at hF;obtain ⟨e0,e1,e2,e3⟩:=hF;subst e0 e1 e2 e3;refine AW.ret (hQ _ _ _ ?_ (AaG ?_)).1
          ·simp [Try.f35,F13]
          ·simp [F13]
         ·replace hF:=Aae h13 hF;have h13_:=h13;try simp at h13_
          have F14:=A3 F12 h13 h13_;try simp [F14]
          and_intros <;> first | exact GK g | apply r | omega | (simp [maxLen,F14] <;> omega)
          refine WK [(2,AV.ptr 0 0),(3,AV.ptr 1 0),(4,AV.ptr 2 0),(6,Iz v11),(7,AV.bool v12),(67,AV.bool (decide (3<v5)))] [(0,.cells [Iz v0,Q0 v1,Lz v2]),(1,.cells [Iz v3,Iz v4,Iz v5]),(2,Aac )] 3 (by simp [F14]) (by simp [F14]) ?_;by_cases h14 : 3<v5
          ·replace hF:=Aad h14 hF;have h14_:=h14;try simp at h14_
           have F15:=A3 F14 h14 h14_;refine CT (by simp [F15] <;> omega) ?_;refine SQ [] [none,none,none] fun _ _ g r=>?_;try simp [F15]
           and_intros <;> first | exact GK g | apply r | omega | (simp [maxLen,F15] <;> omega)
           refine RM h0 [(0,2)] [(4,AV.ptr 0 0),(5,Iz 2)] [(0,Aac )] 1 (by simp [F15]) (by simp [F15]) ?_;refine AW.flg [] [(0,AbV )] trivial ⟨⟨(Aac ),by simp [F15],(.mk (.cons (.same _) (.cons (.lst (by simp)) (.cons (.lst (by simp)) .nil))))⟩,trivial⟩ (by simp) ?_;simp only [Option.some.injEq,Prod.mk.injEq] at hF;obtain ⟨e0,e1,e2,e3⟩:=hF;subst e0 e1 e2 e3;refine AW.ret (hQ _ _ _ ?_ (AaG ?_)).1
           ·simp [Try.f35,F15]
           ·simp [F15]
          ·replace hF:=Aae h14 hF;have h14_:=h14;try simp at h14_
           have F16:=A3 F14 h14 h14_;refine CF (by simp [F16] <;> omega) ?_;refine SQ [] [none,none] fun _ _ g r=>?_;try simp [F16]
           and_intros <;> first | exact GK g | apply r | omega | (simp [maxLen,F16] <;> omega)
           refine WK [(2,AV.ptr 0 0),(3,AV.ptr 1 0),(4,AV.ptr 2 0),(6,Iz v11),(77,AV.bool v12)] [(0,.cells [Iz v0,Q0 v1,Lz v2]),(1,.cells [Iz v3,Iz v4,Iz v5]),(2,Aac )] 3 (by simp [F16]) (by simp [F16]) ?_;by_cases h15 : v12=true
           ·replace hF:=Aad h15 hF;have h15_:=h15;try simp at h15_
            have F17:=A3 F16 h15 h15_;refine CT (by simp [F17] <;> omega) ?_;refine SQ [] [none,none,none] fun _ _ g r=>?_;try simp [F17]
            and_intros <;> first | exact GK g | apply r | omega | (simp [maxLen,F17] <;> omega)
            refine RM h0 [(0,2)] [(4,AV.ptr 0 0),(5,Iz 19)] [(0,Aac )] 1 (by simp [F17]) (by simp [F17]) ?_;refine AW.flg [] [(0,AbV )] trivial ⟨⟨(Aac ),by simp [F17],(.mk (.cons (.same _) (.cons (.lst (by simp)) (.cons (.lst (by simp)) .nil))))⟩,trivial⟩ (by simp) ?_;simp only [Option.some.injEq,Prod.mk.injEq] at hF;obtain ⟨e0,e1,e2,e3⟩:=hF;subst e0 e1 e2 e3;refine AW.ret (hQ _ _ _ ?_ (AaG ?_)).1
            ·simp [Try.f35,F17]
            ·simp [F17]
           ·replace hF:=Aae h15 hF;have h15_:=h15;try simp at h15_
            have F18:=A3 F16 h15 h15_;refine CF (by simp [F18] <;> omega) ?_;refine SQ [] [none,none,none,none,none] fun _ _ g r=>?_;try simp [F18]
            and_intros <;> first | exact GK g | apply r | omega | (simp [maxLen,F18] <;> omega)
            refine WK [(2,AV.ptr 0 0),(3,AV.ptr 1 0),(4,AV.ptr 2 0),(6,Iz v11),(80,AV.bool ((v1.length : Int)==500))] [(0,.cells [Iz v0,Q0 v1,Lz v2]),(1,.cells [Iz v3,Iz v4,Iz v5]),(2,Aac )] 3 (by simp [F18]) (by simp [F18]) ?_;by_cases h16 : (v1.length : Int)=500
            ·replace hF:=Aad h16 hF;have h16q : (v1.length : Int)=500:=h16;have h16_:=Abo h16q;have h16__:=Abn h16q;have F19:=A4 F18 h16_ h16__ h16q;refine CT (by simp [F19] <;> omega) ?_;refine SQ [] [none,none,none] fun _ _ g r=>?_;try simp [F19]
             and_intros <;> first | exact GK g | apply r | omega | (simp [maxLen,F19] <;> omega)
             refine RM h0 [(0,2)] [(4,AV.ptr 0 0),(5,Iz 3)] [(0,Aac )] 1 (by simp [F19]) (by simp [F19]) ?_;refine AW.flg [] [(0,AbV )] trivial ⟨⟨(Aac ),by simp [F19],(.mk (.cons (.same _) (.cons (.lst (by simp)) (.cons (.lst (by simp)) .nil))))⟩,trivial⟩ (by simp) ?_;simp only [Option.some.injEq,Prod.mk.injEq] at hF;obtain ⟨e0,e1,e2,e3⟩:=hF;subst e0 e1 e2 e3;refine AW.ret (hQ _ _ _ ?_ (AaG ?_)).1
             ·simp [Try.f35,F19]
             ·simp [F19]
            ·replace hF:=Aae h16 hF;have h16_:=Abi h16;have h16__:=Abj h16;have F20:=A4 F18 h16 h16_ h16__;refine CF (by simp [F20] <;> omega) ?_;refine AW.skip ?_;refine hK64 _ _ _ ?_;refine SQ [] [none,none,none,none] fun _ _ g r=>?_;try simp [F20]
             and_intros
             try any_goals first | omega | (simp [maxLen,F20] <;> omega)
             obtain ⟨v15,v16,v17,h17,hF⟩:=Agy hF;refine AC (AiM k _ _ _ _ _ _ h17) (.cons (.same (by simp [F20])) .nil) ?_;try simp [F20]
             and_intros <;> first | exact GK g | apply r | omega | (simp [maxLen,F20] <;> omega)
             refine WK [(2,AV.ptr 0 0),(3,AV.ptr 1 0),(4,AV.ptr 2 0),(6,Iz v11),(8,AV.ptr 3 0)] [(0,.cells [Iz v0,Q0 v1,Lz v2]),(1,.cells [Iz v3,Iz v4,Iz v5]),(2,Aac ),(3,.cells [Iz v15,Q0 v16,Lz v17])] 4 (by simp [F20]) (by simp [F20]) ?_;refine SQ [92] [none,none,none,none,none,none,none,none,none,none,none,none,none,none,none] fun _ _ g r=>?_;obtain ⟨⟨h18,h19⟩,hF⟩:=AaY hF;have h18_:=h18;try simp at h18_
             have h19_:=h19;try simp at h19_
             obtain ⟨h20,hF⟩:=AaY hF;have h20_:=h20;try simp at h20_
             obtain ⟨h21,hF⟩:=AaY hF;have h21_:=h21;try simp at h21_
             obtain ⟨⟨h22,h23⟩,hF⟩:=AaY hF;have h22_:=h22;try simp at h22_
             have h23_:=h23;try simp at h23_
             obtain ⟨h24,hF⟩:=AaY hF;have h24_:=h24;try simp at h24_
             have F21:=A9 F20 h18 h19 h18_ h19_ h20 h21 h22 (A4 h23 h22_ h23_ h24);try simp [F21]
             and_intros <;> first | exact GK g | apply r | omega | (simp [maxLen,F21] <;> omega)
             refine WK [(4,AV.ptr 2 0),(8,AV.ptr 3 0)] [(2,Aac ),(3,.cells [Iz v15,AV.slc 6 0 3 ((((v1.take (v11).toNat)++([(AaB.mk v3 v4 v5)] : List AaB))++(v1.drop (v11).toNat)).length) false,Lz v17]),(6,.grow (AaK (List.map AaB.av (((v1.take (v11).toNat)++([(AaB.mk v3 v4 v5)] : List AaB))++(v1.drop (v11).toNat)))))] 7 (by simp [F21]) (by simp [F21] <;> omega) ?_;refine AW.frz 6 (o := .grow (AaK (List.map AaB.av (((v1.take (v11).toNat)++([(AaB.mk v3 v4 v5)] : List AaB))++(v1.drop (v11).toNat))))) (by simp [F21]) rfl [] [(3,.cells [Iz v15,Q0 (((v1.take (v11).toNat)++([(AaB.mk v3 v4 v5)] : List AaB))++(v1.drop (v11).toNat)),Lz v17])] trivial ⟨⟨by simp,Aap.cells [Iz v15,AV.slc 6 0 3 ((((v1.take (v11).toNat)++([(AaB.mk v3 v4 v5)] : List AaB))++(v1.drop (v11).toNat)).length) false,Lz v17],by simp [F21],(.mk (.cons (.same _) (.cons (.l (by simp) (by simp) (by simp) (by simp)) (.cons (.same _) .nil))))⟩,trivial⟩ ?_;refine WK [(4,AV.ptr 2 0),(8,AV.ptr 3 0)] [(2,Aac ),(3,.cells [Iz v15,Q0 (((v1.take (v11).toNat)++([(AaB.mk v3 v4 v5)] : List AaB))++(v1.drop (v11).toNat)),Lz v17])] 7 (by simp [F21]) (by simp [F21]) ?_;refine SQ [] [none,none,none] fun _ _ g r=>?_;try simp [F21]
             and_intros <;> first | exact GK g | apply r | omega | (simp [maxLen,F21] <;> omega)
             refine RM h0 [(0,2)] [(4,AV.ptr 0 0),(5,Iz 0)] [(0,.cells [Iz v15,Q0 (((v1.take (v11).toNat)++([(AaB.mk v3 v4 v5)] : List AaB))++(v1.drop (v11).toNat)),Lz v17])] 1 (by simp [F21]) (by simp [F21]) ?_;simp only [Option.some.injEq,Prod.mk.injEq] at hF;obtain ⟨e0,e1,e2,e3⟩:=hF;subst e0 e1 e2 e3;refine AW.ret (hQ _ _ _ ?_ (AaG ?_)).1
             ·simp [Try.f35,F21]
             ·simp [F21]
abbrev Aau  : Aap := .cells [Iz 0,AV.lst true true (List.map AaB.av ([] : List AaB)),AV.lst true true (List.map (AV.int .i64) ([] : List Int))]
theorem Afv (k : Nat) (v0 : (List Int)) (v1 : Int) (v2 : Int) (v3 : (List AaB)) (v4 : (List Int)) (v5 : Int) (hF : AaT k v0 v1=some (v2,v3,v4,v5)) :
 AbC Try.prog 12 [AV.ptr 0 0] [.cells [AV.lst false false (List.map (AV.int .i64) v0),AV.int .i64 v1]] (AV.agg [AV.int .i64 v2,Q0 v3,AV.lst false false (List.map (AV.int .i64) v4)]) [some (.cells [AV.lst false false (List.map (AV.int .i64) v0),AV.int .i64 v5])]:=by
 unfold AaT at hF;refine EN Try.func12 ?_;intro c0 w0 Q h0 hQ
 refine WK [(0,AV.ptr 0 0)] [(0,.cells [Lz v0,Iz v1])] 1 (by simp) (by simp) ?_;refine SQ [] [none] fun _ _ g r=>?_;try simp
 and_intros <;> first | exact GK g | apply r | omega | (simp [maxLen] <;> omega)
 refine WK [(0,AV.ptr 0 0),(2,AV.ptr 1 0)] [(0,.cells [Lz v0,Iz v1]),(1,Aau )] 2 (by simp) (by simp) ?_;refine SQ [] [none,none,none,none,none,none] fun _ _ g r=>?_;try simp
 and_intros
 try any_goals first | omega | (simp [maxLen] <;> omega)
 obtain ⟨v6,v7,h1,hF⟩:=AbN hF;refine Aa6 (AbE k _ _ _ _ _ h1) (by simp) [0] [] [0] rfl (.cons (.same (by simp)) (.cons (.same (by simp)) .nil)) (by simp) (by decide) (by simp) (by simp) (.inl rfl) (by simp) (by simp) ?_;try simp
 and_intros <;> first | exact GK g | apply r | omega | (simp [maxLen] <;> omega)
 refine WK [(0,AV.ptr 0 0),(2,AV.ptr 1 0),(3,AV.ptr 2 0)] [(0,.cells [Lz v0,Iz v7]),(1,Aau ),(2,.cells [Iz (IntKind.wrap .i64 (2+v6)),AV.lst true true (List.map AaB.av ([] : List AaB)),AV.lst true true (List.map (AV.int .i64) ([] : List Int))])] 3 (by simp) (by simp) ?_;refine AW.midF (α:=Int) (fun v8=>AaT.J1 k v0 v7 v8=some (v2,v3,v4,v5)) (fun v8=>[(0,AV.ptr 0 0),(2,AV.ptr 1 0),(3,AV.ptr 2 0)]) (fun v8=>[(0,.cells [Lz v0,Iz v7]),(1,Aau ),(2,.cells [Iz v8,AV.lst true true (List.map AaB.av ([] : List AaB)),AV.lst true true (List.map (AV.int .i64) ([] : List Int))])]) 3 (fun K210 hK210=>?_) ?_
 ·refine SQ [] [none,none,none,none,none,none] fun _ _ g r=>?_;try simp
  and_intros <;> first | exact GK g | apply r | omega | (simp [maxLen] <;> omega)
  refine WK [(0,AV.ptr 0 0),(2,AV.ptr 1 0),(3,AV.ptr 2 0),(16,AV.bool ((v0.length : Int)==0))] [(0,.cells [Lz v0,Iz v7]),(1,Aau ),(2,.cells [Iz (IntKind.wrap .i64 (2+v6)),AV.lst true true (List.map AaB.av ([] : List AaB)),AV.lst true true (List.map (AV.int .i64) ([] : List Int))])] 3 (by simp) (by simp) ?_;by_cases h12 : (v0.length : Int)=0
  ·replace hF:=Aad h12 hF;have h12q : (v0.length : Int)=0:=h12;have h12_:=Abo h12q;have h12__:=Abn h12q;have F1:=A3 h12_ h12__ h12q;refine CT (by simp [F1] <;> omega) ?_;refine RG [] [none,none] fun _ _ g r=>?_;try simp [F1]
   and_intros <;> first | exact GK g | apply r | omega | (simp [maxLen,F1] <;> omega)
   refine hK210 _ _ _ ?_;exact JN (4) hF (by simp [F1]) (by simp [F1])
  ·replace hF:=Aae h12 hF;have h12_:=Abi h12;have h12__:=Abj h12;have F2:=A3 h12 h12_ h12__;refine CF (by simp [F2] <;> omega) ?_;refine AW.skip ?_;refine hK210 _ _ _ ?_;exact JN (IntKind.wrap .i64 (2+v6)) hF (by simp [F2]) (by simp [F2])
 ·rintro v8 hF
  try dsimp only at hF
  unfold AaT.J1 at hF;refine AW.midF (α:=(Int×(List Int))) (fun (v9,v10)=>AaT.J2 k v0 v8 v9 v10=some (v2,v3,v4,v5)) (fun (v9,v10)=>[(0,AV.ptr 0 0),(2,AV.ptr 1 0),(3,AV.ptr 2 0)]) (fun (v9,v10)=>[(0,.cells [Lz v0,Iz v9]),(1,Aau ),(2,.cells [Iz v8,AV.lst true true (List.map AaB.av ([] : List AaB)),Lz v10])]) 3 (fun K207 hK207=>?_) ?_
  ·refine SQ [] [none,none] fun _ _ g r=>?_;try simp
   and_intros
   try any_goals first | omega | (simp [maxLen] <;> omega)
   obtain ⟨v32,v33,h9,hF⟩:=AbN hF;refine Aa6 (Agb k _ _ _ _ _ h9) (by simp) [0] [] [0] rfl (.cons (.same (by simp)) (.cons (.same (by simp)) .nil)) (by simp) (by decide) (by simp) (by simp) (.inl rfl) (by simp) (by simp) ?_;try simp
   and_intros <;> first | exact GK g | apply r | omega | (simp [maxLen] <;> omega)
   refine WK [(0,AV.ptr 0 0),(2,AV.ptr 1 0),(3,AV.ptr 2 0),(19,AV.bool v32)] [(0,.cells [Lz v0,Iz v33]),(1,Aau ),(2,.cells [Iz v8,AV.lst true true (List.map AaB.av ([] : List AaB)),AV.lst true true (List.map (AV.int .i64) ([] : List Int))])] 3 (by simp) (by simp) ?_;by_cases h10 : v32=true
   ·replace hF:=Aad h10 hF;have h10_:=h10;try simp at h10_
    refine CT (by simp [h10,h10_] <;> omega) ?_;refine RG [] [none,none,none,none,none,none,none] fun _ _ g r=>?_;try simp [h10,h10_]
    and_intros
    try any_goals first | omega | (simp [h10,h10_,maxLen] <;> omega)
    obtain ⟨v34,v35,h11,hF⟩:=AbN hF;refine Aa6 (AbE k _ _ _ _ _ h11) (by simp) [0] [] [0] rfl (.cons (.same (by simp [h10,h10_])) (.cons (.same (by simp [h10,h10_])) .nil)) (by simp [h10,h10_]) (by decide) (by simp) (by simp) (.inl rfl) (by simp) (by simp) ?_;try simp [h10,h10_]
    and_intros <;> first | exact GK g | apply r | omega | (simp [h10,h10_,maxLen] <;> omega)
    refine hK207 _ _ _ ?_;refine Can.weak [(0,AV.ptr 0 0),(2,AV.ptr 1 0),(3,AV.ptr 2 0)] [(0,.cells [Lz v0,Iz v35]),(1,Aau ),(2,.cells [Iz v8,AV.lst true true (List.map AaB.av ([] : List AaB)),AV.lst false true (List.map (AV.int .i64) ([v34] : List Int))])] 3 (by simp [h10,h10_]) (by simp [h10,h10_]) (by simp) ?_;refine Can.flg [] [(2,.cells [Iz v8,AV.lst true true (List.map AaB.av ([] : List AaB)),Lz ([v34] : List Int)])] trivial ⟨⟨Aap.cells [Iz v8,AV.lst true true (List.map AaB.av ([] : List AaB)),AV.lst false true (List.map (AV.int .i64) ([v34] : List Int))],by simp [h10,h10_],(.mk (.cons (.same _) (.cons (.same _) (.cons (.lst (by simp)) .nil))))⟩,trivial⟩ (by simp) ?_;exact JN ((v35,([v34] : List Int))) hF (by simp [h10,h10_]) (by simp [h10,h10_])
   ·replace hF:=Aae h10 hF;have h10_:=h10;try simp at h10_
    refine CF (by simp [h10,h10_] <;> omega) ?_;refine AW.skip ?_;refine hK207 _ _ _ ?_;refine Can.flg [] [(2,.cells [Iz v8,AV.lst true true (List.map AaB.av ([] : List AaB)),Lz ([] : List Int)])] trivial ⟨⟨Aap.cells [Iz v8,AV.lst true true (List.map AaB.av ([] : List AaB)),AV.lst true true (List.map (AV.int .i64) ([] : List Int))],by simp [h10,h10_],(.mk (.cons (.same _) (.cons (.same _) (.cons (.lst (by simp)) .nil))))⟩,trivial⟩ (by simp) ?_;exact JN ((v33,([] : List Int))) hF (by simp [h10,h10_]) (by simp [h10,h10_])
  ·rintro ⟨v9,v10⟩ hF
   try dsimp only at hF
   unfold AaT.J2 at hF;refine AW.seq fun K159 hK159=>?_;refine SQ [] [none,none,none] fun _ _ g r=>?_;try simp
   and_intros
   try any_goals first | omega | (simp [maxLen] <;> omega)
   obtain ⟨v11,v12,h2,hF⟩:=AbN hF;refine Aa6 (AbE k _ _ _ _ _ h2) (by simp) [0] [] [0] rfl (.cons (.same (by simp)) (.cons (.same (by simp)) .nil)) (by simp) (by decide) (by simp) (by simp) (.inl rfl) (by simp) (by simp) ?_;try simp
   and_intros <;> first | exact GK g | apply r | omega | (simp [maxLen] <;> omega)
   refine WK [(0,AV.ptr 0 0),(2,AV.ptr 1 0),(3,AV.ptr 2 0),(4,Iz v11)] [(0,.cells [Lz v0,Iz v12]),(1,Aau ),(2,.cells [Iz v8,AV.lst true true (List.map AaB.av ([] : List AaB)),Lz v10])] 3 (by simp) (by simp) ?_;refine AW.block ?_;refine AW.flg [] [(2,.cells [Iz v8,Q0 ([] : List AaB),Lz v10])] trivial ⟨⟨Aap.cells [Iz v8,AV.lst true true (List.map AaB.av ([] : List AaB)),Lz v10],by simp,(.mk (.cons (.same _) (.cons (.lst (by simp)) (.cons (.same _) .nil))))⟩,trivial⟩ (by simp) ?_;refine AW.loopF (α:=(Int×Int×Int×(List AaB)×(List Int))) (fun n (v13,v14,v15,v16,v17)=>AaT.L3 k v0 n v13 v14 v15 v16 v17=some (v2,v3,v4,v5)) (fun (v13,v14,v15,v16,v17)=>[(0,AV.ptr 0 0),(2,AV.ptr 1 0),(3,AV.ptr 2 0),(4,Iz v13)]) (fun (v13,v14,v15,v16,v17)=>[(0,.cells [Lz v0,Iz v14]),(1,Aau ),(2,.cells [Iz v15,Q0 v16,Lz v17])]) 3 k ((v11,v12,v8,([] : List AaB),v10)) hF (by simp) (by simp) (by simp) ?_;rintro (_|n3) ⟨v13,v14,v15,v16,v17⟩ hF K194 hK194
   ·try dsimp only at hF
    rw [AaT.L3] at hF; cases hF
   try dsimp only at hF
   rw [AaT.L3] at hF;refine AW.seq fun K196 hK196=>?_;refine SQ [] [none,none] fun _ _ g r=>?_;try simp
   and_intros <;> first | exact GK g | apply r | omega | (simp [maxLen] <;> omega)
   refine WK [(0,AV.ptr 0 0),(2,AV.ptr 1 0),(3,AV.ptr 2 0),(4,Iz v13),(29,AV.bool (decide (0<v13)))] [(0,.cells [Lz v0,Iz v14]),(1,Aau ),(2,.cells [Iz v15,Q0 v16,Lz v17])] 3 (by simp) (by simp) ?_;by_cases h3 : 0<v13
   ·replace hF:=Aad h3 hF;have h3_:=h3;try simp at h3_
    refine CT (by simp [h3,h3_] <;> omega) ?_;refine AW.skip ?_;refine hK196 _ _ _ ?_;refine AW.midF (α:=(Int×Int×(List AaB)×(List Int))) (fun (v18,v19,v20,v21)=>AaT.J4 k v13 (fun v13_ v14_ v15_ v16_ v17_=>AaT.L3 k v0 n3 v13_ v14_ v15_ v16_ v17_) v18 v19 v20 v21=some (v2,v3,v4,v5)) (fun (v18,v19,v20,v21)=>[(0,AV.ptr 0 0),(2,AV.ptr 1 0),(3,AV.ptr 2 0),(4,Iz v13)]) (fun (v18,v19,v20,v21)=>[(0,.cells [Lz v0,Iz v18]),(1,Aau ),(2,.cells [Iz v19,Q0 v20,Lz v21])]) 3 (fun K202 hK202=>?_) ?_
    ·refine AW.block ?_;refine SQ [] [none,none,none,none,none,none,none,none,none,none,none,none,none,none,none,none,none,none,none,none] fun _ _ g r=>?_;try simp [h3,h3_]
     and_intros
     try any_goals first | omega | (simp [h3,h3_,maxLen] <;> omega)
     obtain ⟨v22,v23,h4,hF⟩:=AbN hF;refine Aa6 (AbE k _ _ _ _ _ h4) (by simp) [0] [] [0] rfl (.cons (.same (by simp [h3,h3_])) (.cons (.same (by simp [h3,h3_])) .nil)) (by simp [h3,h3_]) (by decide) (by simp) (by simp) (.inl rfl) (by simp) (by simp) ?_;try simp [h3,h3_]
     and_intros
     try any_goals first | omega | (simp [h3,h3_,maxLen] <;> omega)
     obtain ⟨v24,v25,h5,hF⟩:=AbN hF;refine Aa6 (AbE k _ _ _ _ _ h5) (by simp) [0] [] [0] rfl (.cons (.same (by simp [h3,h3_])) (.cons (.same (by simp [h3,h3_])) .nil)) (by simp [h3,h3_]) (by decide) (by simp) (by simp) (.inl rfl) (by simp) (by simp) ?_;try simp [h3,h3_]
     and_intros
     try any_goals first | omega | (simp [h3,h3_,maxLen] <;> omega)
     obtain ⟨v26,v27,h6,hF⟩:=AbN hF;refine Aa6 (AbE k _ _ _ _ _ h6) (by simp) [0] [] [0] rfl (.cons (.same (by simp [h3,h3_])) (.cons (.same (by simp [h3,h3_])) .nil)) (by simp [h3,h3_]) (by decide) (by simp) (by simp) (.inl rfl) (by simp) (by simp) ?_;try simp [h3,h3_]
     and_intros
     try any_goals first | omega | (simp [h3,h3_,maxLen] <;> omega)
     obtain ⟨v28,v29,v30,v31,h7,hF⟩:=Agx hF;refine AC (AgD k _ _ _ _ _ _ _ _ _ _ h7) (.cons (.same (by simp [h3,h3_])) (.cons (.same (by simp [h3,h3_])) .nil)) ?_;try simp [h3,h3_]
     and_intros <;> first | exact GK g | apply r | omega | (simp [h3,h3_,maxLen] <;> omega)
     refine WK [(0,AV.ptr 0 0),(2,AV.ptr 1 0),(3,AV.ptr 2 0),(4,Iz v13),(5,AV.ptr 3 0),(6,Iz v31)] [(0,.cells [Lz v0,Iz v27]),(1,Aau ),(2,.cells [Iz v15,Q0 v16,Lz v17]),(3,.cells [Iz v28,Q0 v29,Lz v30])] 4 (by simp [h3,h3_]) (by simp [h3,h3_]) ?_;refine SQ [] [none,none] fun _ _ g r=>?_;try simp [h3,h3_]
     and_intros <;> first | exact GK g | apply r | omega | (simp [h3,h3_,maxLen] <;> omega)
     refine WK [(0,AV.ptr 0 0),(2,AV.ptr 1 0),(3,AV.ptr 2 0),(4,Iz v13),(5,AV.ptr 3 0),(50,AV.bool (v31==0))] [(0,.cells [Lz v0,Iz v27]),(1,Aau ),(2,.cells [Iz v15,Q0 v16,Lz v17]),(3,.cells [Iz v28,Q0 v29,Lz v30])] 4 (by simp [h3,h3_]) (by simp [h3,h3_]) ?_;by_cases h8 : v31=0
     ·replace hF:=Aad h8 hF;have h8q : v31=0:=h8;have h8_:=Abo h8q;have h8__:=Abn h8q;have F3:=A5 h3 h3_ h8_ h8__ h8q;refine CT (by simp [F3] <;> omega) ?_;refine RG [] [none,none] fun _ _ g r=>?_;try simp [F3]
      and_intros <;> first | exact GK g | apply r | omega | (simp [maxLen,F3] <;> omega)
      refine hK202 _ _ _ ?_;refine Can.weak [(0,AV.ptr 0 0),(2,AV.ptr 1 0),(3,AV.ptr 2 0),(4,Iz v13)] [(0,.cells [Lz v0,Iz v27]),(1,Aau ),(2,.cells [Iz v28,Q0 v29,Lz v30])] 4 (by simp [F3]) (by simp [F3]) (by simp) ?_;refine Can.ren (m:=1) h0 [(0,0),(1,1),(2,2)] [(0,AV.ptr 0 0),(2,AV.ptr 1 0),(3,AV.ptr 2 0),(4,Iz v13)] [(0,.cells [Lz v0,Iz v27]),(1,Aau ),(2,.cells [Iz v28,Q0 v29,Lz v30])] 3 (by decide) (by decide) (by decide) rfl (by simp [F3]) (by simp [F3]) ?_;exact JN ((v27,v28,v29,v30)) hF (by simp [F3]) (by simp [F3])
     ·replace hF:=Aae h8 hF;have h8_:=Abi h8;have h8__:=Abj h8;have F4:=A5 h3 h3_ h8 h8_ h8__;refine CF (by simp [F4] <;> omega) ?_;refine AW.skip ?_;refine hK202 _ _ _ ?_;refine Can.ren (m:=1) h0 [(0,0),(1,1),(2,2)] [(0,AV.ptr 0 0),(2,AV.ptr 1 0),(3,AV.ptr 2 0),(4,Iz v13)] [(0,.cells [Lz v0,Iz v27]),(1,Aau ),(2,.cells [Iz v15,Q0 v16,Lz v17])] 3 (by decide) (by decide) (by decide) rfl (by simp [F4]) (by simp [F4]) ?_;exact JN ((v27,v15,v16,v17)) hF (by simp [F4]) (by simp [F4])
    ·rintro ⟨v18,v19,v20,v21⟩ hF
     try dsimp only at hF
     unfold AaT.J4 at hF;refine RG [] [none,none,none] fun _ _ g r=>?_;try simp [h3,h3_]
     and_intros <;> first | exact GK g | apply r | omega | (simp [h3,h3_,maxLen] <;> omega)
     refine hK194 _ _ _ ?_;exact NX (k':=n3) ((IntKind.wrap .i64 (v13-1),v18,v19,v20,v21)) hF (by simp [h3,h3_]) (by simp [h3,h3_])
   ·replace hF:=Aae h3 hF;have h3_:=h3;try simp at h3_
    refine CF (by simp [h3,h3_] <;> omega) ?_;refine AW.exit ?_;try simp
    refine hK159 _ _ _ ?_;refine SQ [] [none,none] fun _ _ g r=>?_;try simp [h3,h3_]
    and_intros <;> first | exact GK g | apply r | omega | (simp [h3,h3_,maxLen] <;> omega)
    refine WK [(2,AV.ptr 1 0)] [(0,.cells [Lz v0,Iz v14]),(1,.cells [Iz v15,Q0 v16,Lz v17])] 3 (by simp [h3,h3_]) (by simp [h3,h3_]) ?_;simp only [Option.some.injEq,Prod.mk.injEq] at hF;obtain ⟨e0,e1,e2,e3⟩:=hF;subst e0 e1 e2 e3;refine AW.ret (hQ _ _ _ ?_ (AaG ?_)).1
    ·simp [Try.f12,h3,h3_]
    ·simp [h3,h3_]
theorem Afw (k : Nat) (v0 : (List Int)) (v1 : Bool) (hF : AbJ k v0=some v1) :
 AbC Try.prog 8 [AV.lst false false (List.map (AV.int .i64) v0)] [] (AV.bool v1) []:=by
 unfold AbJ at hF;refine EN Try.func8 ?_;intro c0 w0 Q h0 hQ
 refine WK [(0,Lz v0)] [] 0 (by simp) (by simp) ?_;refine SQ [] [none] fun _ _ g r=>?_;try simp
 and_intros <;> first | exact GK g | apply r | omega | (simp [maxLen] <;> omega)
 refine WK [(0,Lz v0)] [] 0 (by simp) (by simp) ?_;refine AW.seq fun K23 hK23=>?_;refine SQ [] [none,none,none] fun _ _ g r=>?_;try simp
 and_intros
 try any_goals first | omega | (simp [maxLen] <;> omega)
 obtain ⟨v2,h1,hF⟩:=AaN hF;refine AC (AiO k _ _ h1) (.cons (.same (by simp)) .nil) ?_;try simp
 and_intros <;> first | exact GK g | apply r | omega | (simp [maxLen] <;> omega)
 refine WK [(0,Lz v0),(14,AV.bool (!v2))] [] 0 (by simp) (by simp) ?_;by_cases h2 : (!v2)=true
 ·replace hF:=Aad h2 hF;have h2_:=h2;try simp at h2_
  refine CT (by simp [h2,h2_] <;> omega) ?_;refine SQ [] [none,none] fun _ _ g r=>?_;try simp [h2,h2_]
  and_intros
  try any_goals first | omega | (simp [h2,h2_,maxLen] <;> omega)
  obtain ⟨v3,h3,hF⟩:=AaN hF;refine AC (AfO k _ h3) .nil ?_;try simp [h2,h2_]
  and_intros <;> first | exact GK g | apply r | omega | (simp [h2,h2_,maxLen] <;> omega)
  refine WK [(2,AV.bool v3)] [] 0 (by simp [h2,h2_]) (by simp [h2,h2_]) ?_;simp only [Option.some.injEq] at hF;subst hF;refine AW.ret (hQ _ _ _ ?_ (AaG ?_)).1
  ·simp [Try.f8,h2,h2_]
  ·simp [h2,h2_]
 ·replace hF:=Aae h2 hF;have h2_:=h2;try simp at h2_
  refine CF (by simp [h2,h2_] <;> omega) ?_;refine AW.skip ?_;refine hK23 _ _ _ ?_;refine SQ [] [none,none,none] fun _ _ g r=>?_;try simp [h2,h2_]
  and_intros
  try any_goals first | omega | (simp [h2,h2_,maxLen] <;> omega)
  obtain ⟨v4,v5,h4,hF⟩:=AbN hF;refine AC (AjG k _ _ _ h4) (.cons (.same (by simp [h2,h2_])) .nil) ?_;try simp [h2,h2_]
  and_intros <;> first | exact GK g | apply r | omega | (simp [h2,h2_,maxLen] <;> omega)
  refine WK [(3,AV.ptr 0 0)] [(0,.cells [Lz v4,Iz v5])] 1 (by simp [h2,h2_]) (by simp [h2,h2_]) ?_;refine SQ [] [none,none,none,none] fun _ _ g r=>?_;try simp [h2,h2_]
  and_intros
  try any_goals first | omega | (simp [h2,h2_,maxLen] <;> omega)
  obtain ⟨v6,v7,v8,v9,h5,hF⟩:=Agx hF;refine Aa6 (Afv k _ _ _ _ _ _ h5) (by simp) [0] [] [0] rfl (.cons (.same (by simp [h2,h2_])) .nil) (by simp [h2,h2_]) (by decide) (by simp) (by simp) (.inl rfl) (by simp) (by simp) ?_;try simp [h2,h2_]
  and_intros <;> first | exact GK g | apply r | omega | (simp [h2,h2_,maxLen] <;> omega)
  refine WK [(3,AV.ptr 0 0),(4,AV.ptr 1 0)] [(0,.cells [Lz v4,Iz v9]),(1,.cells [Iz v6,Q0 v7,Lz v8])] 2 (by simp [h2,h2_]) (by simp [h2,h2_]) ?_;refine SQ [] [none,none,none,none,none,none,none,none,none,none] fun _ _ g r=>?_;try simp [h2,h2_]
  and_intros
  try any_goals first | omega | (simp [h2,h2_,maxLen] <;> omega)
  obtain ⟨v10,v11,h6,hF⟩:=AbN hF;refine Aa6 (AbE k _ _ _ _ _ h6) (by simp) [0] [] [0] rfl (.cons (.same (by simp [h2,h2_])) (.cons (.same (by simp [h2,h2_])) .nil)) (by simp [h2,h2_]) (by decide) (by simp) (by simp) (.inl rfl) (by simp) (by simp) ?_;try simp [h2,h2_]
  and_intros
  try any_goals first | omega | (simp [h2,h2_,maxLen] <;> omega)
  obtain ⟨v12,v13,h7,hF⟩:=AbN hF;refine Aa6 (AbE k _ _ _ _ _ h7) (by simp) [0] [] [0] rfl (.cons (.same (by simp [h2,h2_])) (.cons (.same (by simp [h2,h2_])) .nil)) (by simp [h2,h2_]) (by decide) (by simp) (by simp) (.inl rfl) (by simp) (by simp) ?_;try simp [h2,h2_]
  and_intros <;> first | exact GK g | apply r | omega | (simp [h2,h2_,maxLen] <;> omega)
  refine WK [(3,AV.ptr 0 0),(4,AV.ptr 1 0),(5,Iz v10),(6,Iz v12)] [(0,.cells [Lz v4,Iz v13]),(1,.cells [Iz v6,Q0 v7,Lz v8])] 2 (by simp [h2,h2_]) (by simp [h2,h2_]) ?_;refine SQ [] [none,none,none] fun _ _ g r=>?_;try simp [h2,h2_]
  and_intros <;> first | exact GK g | apply r | omega | (simp [h2,h2_,maxLen] <;> omega)
  refine WK [(3,AV.ptr 0 0),(4,AV.ptr 1 0),(5,Iz v10),(6,Iz v12),(7,AV.ptr 2 0)] [(0,.cells [Lz v4,Iz v13]),(1,.cells [Iz v6,Q0 v7,Lz v8]),(2,.cells [Iz v6,Q0 v7,Lz v8])] 3 (by simp [h2,h2_]) (by simp [h2,h2_]) ?_;refine AW.midF (α:=(Int×(List AaB)×(List Int))) (fun (v14,v15,v16)=>AbJ.J1 k v6 v7 v8 v10 v12 v14 v15 v16=some v1) (fun (v14,v15,v16)=>[(4,AV.ptr 0 0),(5,Iz v10),(6,Iz v12),(7,AV.ptr 1 0)]) (fun (v14,v15,v16)=>[(0,.cells [Iz v6,Q0 v7,Lz v8]),(1,.cells [Iz v14,Q0 v15,Lz v16])]) 2 (fun K35 hK35=>?_) ?_
  ·refine SQ [] [none,none,none,none,none,none,none,none,none,none,none,none,none,none,none,none,none] fun _ _ g r=>?_;try simp [h2,h2_]
   and_intros
   try any_goals first | omega | (simp [h2,h2_,maxLen] <;> omega)
   obtain ⟨v24,v25,h20,hF⟩:=AbN hF;refine Aa6 (AbE k _ _ _ _ _ h20) (by simp) [0] [] [0] rfl (.cons (.same (by simp [h2,h2_])) (.cons (.same (by simp [h2,h2_])) .nil)) (by simp [h2,h2_]) (by decide) (by simp) (by simp) (.inl rfl) (by simp) (by simp) ?_;try simp [h2,h2_]
   and_intros
   try any_goals first | omega | (simp [h2,h2_,maxLen] <;> omega)
   obtain ⟨v26,v27,h21,hF⟩:=AbN hF;refine Aa6 (AbE k _ _ _ _ _ h21) (by simp) [0] [] [0] rfl (.cons (.same (by simp [h2,h2_])) (.cons (.same (by simp [h2,h2_])) .nil)) (by simp [h2,h2_]) (by decide) (by simp) (by simp) (.inl rfl) (by simp) (by simp) ?_;try simp [h2,h2_]
   and_intros
   try any_goals first | omega | (simp [h2,h2_,maxLen] <;> omega)
   obtain ⟨v28,v29,v30,v31,h22,hF⟩:=Agx hF;refine AC (AgD k _ _ _ _ _ _ _ _ _ _ h22) (.cons (.same (by simp [h2,h2_])) (.cons (.same (by simp [h2,h2_])) .nil)) ?_;try simp [h2,h2_]
   and_intros <;> first | exact GK g | apply r | omega | (simp [h2,h2_,maxLen] <;> omega)
   refine WK [(4,AV.ptr 1 0),(5,Iz v10),(6,Iz v12),(7,AV.ptr 2 0),(8,AV.ptr 3 0),(9,Iz v31)] [(1,.cells [Iz v6,Q0 v7,Lz v8]),(2,.cells [Iz v6,Q0 v7,Lz v8]),(3,.cells [Iz v28,Q0 v29,Lz v30])] 4 (by simp [h2,h2_]) (by simp [h2,h2_]) ?_;refine SQ [] [none,none] fun _ _ g r=>?_;try simp [h2,h2_]
   and_intros <;> first | exact GK g | apply r | omega | (simp [h2,h2_,maxLen] <;> omega)
   refine WK [(4,AV.ptr 1 0),(5,Iz v10),(6,Iz v12),(7,AV.ptr 2 0),(8,AV.ptr 3 0),(44,AV.bool (v31==0))] [(1,.cells [Iz v6,Q0 v7,Lz v8]),(2,.cells [Iz v6,Q0 v7,Lz v8]),(3,.cells [Iz v28,Q0 v29,Lz v30])] 4 (by simp [h2,h2_]) (by simp [h2,h2_]) ?_;by_cases h23 : v31=0
   ·replace hF:=Aad h23 hF;have h23q : v31=0:=h23;have h23_:=Abo h23q;have h23__:=Abn h23q;have F1:=A5 h2 h2_ h23_ h23__ h23q;refine CT (by simp [F1] <;> omega) ?_;refine RG [] [none,none] fun _ _ g r=>?_;try simp [F1]
    and_intros <;> first | exact GK g | apply r | omega | (simp [maxLen,F1] <;> omega)
    refine hK35 _ _ _ ?_;refine RN h0 [(0,1),(1,2)] [(4,AV.ptr 0 0),(5,Iz v10),(6,Iz v12),(7,AV.ptr 1 0)] [(0,.cells [Iz v6,Q0 v7,Lz v8]),(1,.cells [Iz v28,Q0 v29,Lz v30])] 2 (by simp [F1]) (by simp [F1]) ?_;exact JN ((v28,v29,v30)) hF (by simp [F1]) (by simp [F1])
   ·replace hF:=Aae h23 hF;have h23_:=Abi h23;have h23__:=Abj h23;have F2:=A5 h2 h2_ h23 h23_ h23__;refine CF (by simp [F2] <;> omega) ?_;refine AW.skip ?_;refine hK35 _ _ _ ?_;refine RN h0 [(0,1),(1,2)] [(4,AV.ptr 0 0),(5,Iz v10),(6,Iz v12),(7,AV.ptr 1 0)] [(0,.cells [Iz v6,Q0 v7,Lz v8]),(1,.cells [Iz v6,Q0 v7,Lz v8])] 2 (by simp [F2]) (by simp [F2]) ?_;exact JN ((v6,v7,v8)) hF (by simp [F2]) (by simp [F2])
  ·rintro ⟨v14,v15,v16⟩ hF
   try dsimp only at hF
   unfold AbJ.J1 at hF;refine SQ [] [none,none,none,none,none,none,none,none,none,none] fun _ _ g r=>?_;try simp [h2,h2_]
   and_intros
   try any_goals first | omega | (simp [h2,h2_,maxLen] <;> omega)
   obtain ⟨v17,h8,hF⟩:=AaN hF;refine AC (AcL k _ _ _ _ _ _ _ h8) (.cons (.same (by simp [h2,h2_])) (.cons (.same (by simp [h2,h2_])) (.cons (.same (by simp [h2,h2_])) (.cons (.same (by simp [h2,h2_])) .nil)))) ?_;try simp [h2,h2_]
   and_intros
   try any_goals first | omega | (simp [h2,h2_,maxLen] <;> omega)
   obtain ⟨v18,h9,hF⟩:=AaN hF;refine AC (AcL k _ _ _ _ _ _ _ h9) (.cons (.same (by simp [h2,h2_])) (.cons (.same (by simp [h2,h2_])) (.cons (.same (by simp [h2,h2_])) (.cons (.same (by simp [h2,h2_])) .nil)))) ?_;try simp [h2,h2_]
   and_intros <;> first | exact GK g | apply r | omega | (simp [h2,h2_,maxLen] <;> omega)
   refine WK [(4,AV.ptr 0 0),(5,Iz v10),(6,Iz v12),(10,Iz v17),(11,Iz v18)] [(0,.cells [Iz v6,Q0 v7,Lz v8])] 2 (by simp [h2,h2_]) (by simp [h2,h2_]) ?_;refine SQ [] [none,none,some (55,true),some (55,true),some (55,true),none,none,some (60,true),some (60,true),some (60,true),some (60,true),none,none,some (66,true),some (66,true),some (66,true),some (66,true),some (66,true),some (66,true),none,none,some (74,true),some (74,true),some (74,true),some (74,true),some (74,true),some (74,true),some (74,true),some (74,true),some (74,true),none,none,some (85,true),some (85,true),some (85,true),some (85,true),none,none] fun _ _ g r=>?_;try simp [h2,h2_]
   and_intros
   try any_goals first | omega | (simp [h2,h2_,maxLen] <;> omega)
   obtain ⟨v19,h10,hF⟩:=AaN hF;refine AC (AfO k _ h10) .nil ?_;by_cases h11 : v19=true
   ·replace hF:=Aad h11 hF;have h11_:=h11;try simp at h11_
    by_cases h12 : v17≤v18
    ·replace hF:=Aad h12 hF;have h12_:=h12;try simp at h12_
     by_cases h13 : v18≤IntKind.wrap .i64 (v17+1)
     ·replace hF:=Aad h13 hF;have h13_:=h13;try simp at h13_
      have F3:=A8 h2 h2_ h11 h11_ h12 h12_ h13 h13_;try simp [F3]
      and_intros
      try any_goals first | omega | (simp [maxLen,F3] <;> omega)
      obtain ⟨v20,h14,hF⟩:=AaN hF;refine AC (AcL k _ _ _ _ _ _ _ h14) (.cons (.same (by simp [F3])) (.cons (.same (by simp [F3])) (.cons (.same (by simp [F3])) (.cons (.same (by simp [F3])) .nil)))) ?_;by_cases h15 : v20≤v17
      ·replace hF:=Aad h15 hF;have h15_:=h15;try simp at h15_
       have F4:=A3 F3 h15 h15_;try simp [F4]
       and_intros
       try any_goals first | omega | (simp [maxLen,F4] <;> omega)
       obtain ⟨v21,h16,hF⟩:=AaN hF;refine AC (AcL k _ _ _ _ _ _ _ h16) (.cons (.same (by simp [F4])) (.cons (.same (by simp [F4])) (.cons (.same (by simp [F4])) (.cons (.same (by simp [F4])) .nil)))) ?_;try simp [F4]
       and_intros
       try any_goals first | omega | (simp [maxLen,F4] <;> omega)
       obtain ⟨v22,h17,hF⟩:=AaN hF;refine AC (AcL k _ _ _ _ _ _ _ h17) (.cons (.same (by simp [F4])) (.cons (.same (by simp [F4])) (.cons (.same (by simp [F4])) (.cons (.same (by simp [F4])) .nil)))) ?_;by_cases h18 : v21≤v22
       ·replace hF:=Aad h18 hF;have h18_:=h18;try simp at h18_
        have F5:=A3 F4 h18 h18_;try simp [F5]
        and_intros
        try any_goals first | omega | (simp [maxLen,F5] <;> omega)
        obtain ⟨v23,h19,hF⟩:=AaN hF;refine AC (Ad3 k _ _ _ _ _ _ _ _ h19) (.cons (.same (by simp [F5])) (.cons (.same (by simp [F5])) (.cons (.same (by simp [F5])) (.cons (.same (by simp [F5])) (.cons (Coe.fl (by simp [F5])) .nil))))) ?_;try simp [F5]
        and_intros <;> first | exact GK g | apply r | omega | (simp [maxLen,F5] <;> omega)
        refine WK [(2,AV.bool v23)] [] 2 (by simp [F5]) (by simp [F5]) ?_;simp only [Option.some.injEq] at hF;subst hF;refine AW.ret (hQ _ _ _ ?_ (AaG ?_)).1
        ·simp [Try.f8,F5]
        ·simp [F5]
       ·replace hF:=Aae h18 hF;have h18_:=h18;try simp at h18_
        have F6:=A3 F4 h18 h18_;try simp [F6]
        and_intros <;> first | exact GK g | apply r | omega | (simp [maxLen,F6] <;> omega)
        refine WK [(2,AV.bool false)] [] 2 (by simp [F6]) (by simp [F6]) ?_;simp only [Option.some.injEq] at hF;subst hF;refine AW.ret (hQ _ _ _ ?_ (AaG ?_)).1
        ·simp [Try.f8,F6]
        ·simp [F6]
      ·replace hF:=Aae h15 hF;have h15_:=h15;try simp at h15_
       have F7:=A3 F3 h15 h15_;try simp [F7]
       and_intros <;> first | exact GK g | apply r | omega | (simp [maxLen,F7] <;> omega)
       refine WK [(2,AV.bool false)] [] 2 (by simp [F7]) (by simp [F7]) ?_;simp only [Option.some.injEq] at hF;subst hF;refine AW.ret (hQ _ _ _ ?_ (AaG ?_)).1
       ·simp [Try.f8,F7]
       ·simp [F7]
     ·replace hF:=Aae h13 hF;have h13_:=h13;try simp at h13_
      have F8:=A8 h2 h2_ h11 h11_ h12 h12_ h13 h13_;try simp [F8]
      and_intros <;> first | exact GK g | apply r | omega | (simp [maxLen,F8] <;> omega)
      refine WK [(2,AV.bool false)] [] 2 (by simp [F8]) (by simp [F8]) ?_;simp only [Option.some.injEq] at hF;subst hF;refine AW.ret (hQ _ _ _ ?_ (AaG ?_)).1
      ·simp [Try.f8,F8]
      ·simp [F8]
    ·replace hF:=Aae h12 hF;have h12_:=h12;try simp at h12_
     have F9:=A6 h2 h2_ h11 h11_ h12 h12_;try simp [F9]
     and_intros <;> first | exact GK g | apply r | omega | (simp [maxLen,F9] <;> omega)
     refine WK [(2,AV.bool false)] [] 2 (by simp [F9]) (by simp [F9]) ?_;simp only [Option.some.injEq] at hF;subst hF;refine AW.ret (hQ _ _ _ ?_ (AaG ?_)).1
     ·simp [Try.f8,F9]
     ·simp [F9]
   ·replace hF:=Aae h11 hF;have h11_:=h11;try simp at h11_
    have F10:=A4 h2 h2_ h11 h11_;try simp [F10]
    and_intros <;> first | exact GK g | apply r | omega | (simp [maxLen,F10] <;> omega)
    refine WK [(2,AV.bool false)] [] 2 (by simp [F10]) (by simp [F10]) ?_;simp only [Option.some.injEq] at hF;subst hF;refine AW.ret (hQ _ _ _ ?_ (AaG ?_)).1
    ·simp [Try.f8,F10]
    ·simp [F10]
end Go.TF
