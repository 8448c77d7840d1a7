import Derived.Test.YtomgdcnbceiggaaRazWal27
import Derived.Test.YtomgdcnbceiggaaRazWal28
set_option linter.unusedVariables false
set_option linter.unusedSimpArgs false
set_option maxRecDepth 100000
set_option maxHeartbeats 4000000
namespace Go.TF
open Go Go.Abs Go.Proofs Go.Proofs.YtomgdcnbceiggaaRaT
theorem Abp (k : Nat) (v0 : Int) (v1 : Int) (v2 : Int) (v3 : Bool) (hF : Abb k v0 v1 v2=some v3) :
 Aa0 Try.prog 70 [AV.int .i64 v0,AV.int .i64 v1,AV.int .i64 v2] [] (AV.bool v3) []:=by
 unfold Abb at hF;refine EN Try.func70 ?_;intro c0 w0 Q h0 hQ
 refine WK [(0,Iz v0),(1,Iz v1),(2,Iz v2)] [] 0 (by simp) (by simp) ?_;refine SQ [] [none] fun _ _ g r=>?_;try simp
 and_intros <;> first | exact GK g | apply r | omega | (simp [maxLen] <;> omega)
 refine WK [(0,Iz v0),(1,Iz v1),(2,Iz v2)] [] 0 (by simp) (by simp) ?_;refine SQ [] [none,none,none,none,some (10,true),some (10,true),some (10,true),none,none] fun _ _ g r=>?_;by_cases h1 : v1≤v0
 ·replace hF:=AaF h1 hF;have h1_:=h1;try simp at h1_
  try simp [h1,h1_]
  and_intros <;> first | exact GK g | apply r | omega | (simp [h1,h1_,maxLen] <;> omega)
  refine WK [(6,AV.bool (decide (v0≤v2)))] [] 0 (by simp [h1,h1_]) (by simp [h1,h1_]) ?_;simp only [Option.some.injEq] at hF;subst hF;refine AW.ret (hQ _ _ _ ?_ (AaB ?_)).1
  ·simp [Try.f70,h1,h1_]
  ·simp [h1,h1_]
 ·replace hF:=AaG h1 hF;have h1_:=h1;try simp at h1_
  try simp [h1,h1_]
  and_intros <;> first | exact GK g | apply r | omega | (simp [h1,h1_,maxLen] <;> omega)
  refine WK [(6,AV.bool false)] [] 0 (by simp [h1,h1_]) (by simp [h1,h1_]) ?_;simp only [Option.some.injEq] at hF;subst hF;refine AW.ret (hQ _ _ _ ?_ (AaB ?_)).1
  ·simp [Try.f70,h1,h1_]
  ·simp [h1,h1_]
theorem AdI (k : Nat) (v0 : (List Int)) (v1 : Int) (v2 : Int) (v3 : Bool) (hF : AaP k v0 v1 v2=some v3) :
 Aa0 Try.prog 69 [AV.lst false false (List.map (AV.int .i64) v0),AV.int .i64 v1,AV.int .i64 v2] [] (AV.bool v3) []:=by
 unfold AaP at hF;refine EN Try.func69 ?_;intro c0 w0 Q h0 hQ
 refine WK [(0,Lz v0),(1,Iz v1),(2,Iz v2)] [] 0 (by simp) (by simp) ?_;refine SQ [] [none] fun _ _ g r=>?_;try simp
 and_intros <;> first | exact GK g | apply r | omega | (simp [maxLen] <;> omega)
 refine WK [(0,Lz v0),(1,Iz v1),(2,Iz v2)] [] 0 (by simp) (by simp) ?_;refine AW.seq fun K167 hK167=>?_;refine SQ [] [none,none,none] fun _ _ g r=>?_;try simp
 and_intros <;> first | exact GK g | apply r | omega | (simp [maxLen] <;> omega)
 refine WK [(0,Lz v0),(1,Iz v1),(2,Iz v2),(9,Lz v0),(10,Iz (v0.length : Int)),(11,Iz 0)] [] 0 (by simp) (by simp) ?_;refine AW.block ?_;refine AW.loopF (α:=Int) (fun n v4=>AaP.L1 k v0 v1 v2 n v4=some v3) (fun v4=>[(0,Lz v0),(1,Iz v1),(2,Iz v2),(9,Lz v0),(10,Iz (v0.length : Int)),(11,Iz v4)]) (fun v4=>[]) 0 k (0) hF (by simp) (by simp) (by simp) ?_;rintro (_|n1) v4 hF K207 hK207
 ·try dsimp only at hF
  rw [AaP.L1] at hF; cases hF
 try dsimp only at hF
 rw [AaP.L1] at hF;refine SQ [] [none] fun _ _ g r=>?_;try simp
 and_intros <;> first | exact GK g | apply r | omega | (simp [maxLen] <;> omega)
 refine WK [(0,Lz v0),(1,Iz v1),(2,Iz v2),(9,Lz v0),(10,Iz (v0.length : Int)),(11,Iz v4),(12,AV.bool (decide (v4<(v0.length : Int))))] [] 0 (by simp) (by simp) ?_;refine AW.seq fun K209 hK209=>?_;by_cases h1 : v4<(v0.length : Int)
 ·replace hF:=AaF h1 hF;have h1_:=h1;try simp at h1_
  refine CT (by simp [h1,h1_] <;> omega) ?_;refine AW.skip ?_;refine hK209 _ _ _ ?_;refine AW.midF (α:=Unit) (fun _=>AaP.J2 k v4 (fun v4_=>AaP.L1 k v0 v1 v2 n1 v4_)=some v3) (fun _=>[(0,Lz v0),(1,Iz v1),(2,Iz v2),(9,Lz v0),(10,Iz (v0.length : Int)),(11,Iz v4)]) (fun _=>[]) 0 (fun K216 hK216=>?_) ?_
  ·refine AW.block ?_;refine SQ [] [none,none,none,none,none] fun _ _ g r=>?_;obtain ⟨v5,h2,h3,h4,hF⟩:=Aab hF;have h4_:=Aaw h4;try simp at h4_
   have h3_:=h3;try simp at h3_
   have F1:=A7 h1 h1_ h2 h3 h4 h4_ h3_;try simp [F1]
   and_intros <;> first | exact GK g | apply r | omega | (simp [maxLen,F1] <;> omega)
   refine WK [(0,Lz v0),(1,Iz v1),(2,Iz v2),(7,Iz v4),(8,Iz v5),(9,Lz v0),(10,Iz (v0.length : Int)),(11,Iz v4)] [] 0 (by simp [F1]) (by simp [F1]) ?_;refine SQ [] [none,none,none,none,some (19,false),some (19,false),some (19,false),none,none,some (24,false),some (24,false),some (24,false),some (27,true),some (27,true),some (27,true),some (27,true),some (27,true),some (27,true),some (27,true),some (24,false),none] fun _ _ g r=>?_;by_cases h5 : v5<v1
   ·replace hF:=AaF h5 hF;have h5_:=h5;try simp at h5_
    have F2:=A3 F1 h5 h5_;try simp [F2]
    and_intros <;> first | exact GK g | apply r | omega | (simp [maxLen,F2] <;> omega)
    refine WK [(0,Lz v0),(1,Iz v1),(2,Iz v2),(9,Lz v0),(10,Iz (v0.length : Int)),(11,Iz v4),(36,AV.bool true)] [] 0 (by simp [F2]) (by simp [F2]) ?_;refine CT (by simp [F2]) ?_;refine SQ [] [none] fun _ _ g r=>?_;try simp [F2]
    and_intros <;> first | exact GK g | apply r | omega | (simp [maxLen,F2] <;> omega)
    refine WK [(6,AV.bool false)] [] 0 (by simp [F2]) (by simp [F2]) ?_;simp only [Option.some.injEq] at hF;subst hF;refine AW.ret (hQ _ _ _ ?_ (AaB ?_)).1
    ·simp [Try.f69,F2]
    ·simp [F2]
   ·replace hF:=AaG h5 hF;have h5_:=h5;try simp at h5_
    by_cases h6 : v2<v5
    ·replace hF:=AaF h6 hF;have h6_:=h6;try simp at h6_
     have F3:=A5 F1 h5 h5_ h6 h6_;try simp [F3]
     and_intros <;> first | exact GK g | apply r | omega | (simp [maxLen,F3] <;> omega)
     refine WK [(0,Lz v0),(1,Iz v1),(2,Iz v2),(9,Lz v0),(10,Iz (v0.length : Int)),(11,Iz v4),(36,AV.bool true)] [] 0 (by simp [F3]) (by simp [F3]) ?_;refine CT (by simp [F3]) ?_;refine SQ [] [none] fun _ _ g r=>?_;try simp [F3]
     and_intros <;> first | exact GK g | apply r | omega | (simp [maxLen,F3] <;> omega)
     refine WK [(6,AV.bool false)] [] 0 (by simp [F3]) (by simp [F3]) ?_;simp only [Option.some.injEq] at hF;subst hF;refine AW.ret (hQ _ _ _ ?_ (AaB ?_)).1
     ·simp [Try.f69,F3]
     ·simp [F3]
    ·replace hF:=AaG h6 hF;have h6_:=h6;try simp at h6_
     by_cases h7 : 0<v4
     ·replace hF:=AaF h7 hF;have h7_:=h7;try simp at h7_
      obtain ⟨v6,h8,h9,h10,hF⟩:=Aab hF;have h10_:=Aaw h10;try simp at h10_
      have h9_:=h9;try simp at h9_
      have F4:=A9 F1 h5 h5_ h6 h6_ h7 h7_ h8 (A4 h9 h10 h10_ h9_);try simp [F4]
      and_intros <;> first | exact GK g | apply r | omega | (simp [maxLen,F4] <;> omega)
      refine WK [(0,Lz v0),(1,Iz v1),(2,Iz v2),(9,Lz v0),(10,Iz (v0.length : Int)),(11,Iz v4),(36,AV.bool (decide (v5≤v6)))] [] 0 (by simp [F4]) (by simp [F4]) ?_;by_cases h11 : v5≤v6
      ·replace hF:=AaF h11 hF;have h11_:=h11;try simp at h11_
       have F5:=A3 F4 h11 h11_;refine CT (by simp [F5] <;> omega) ?_;refine SQ [] [none] fun _ _ g r=>?_;try simp [F5]
       and_intros <;> first | exact GK g | apply r | omega | (simp [maxLen,F5] <;> omega)
       refine WK [(6,AV.bool false)] [] 0 (by simp [F5]) (by simp [F5]) ?_;simp only [Option.some.injEq] at hF;subst hF;refine AW.ret (hQ _ _ _ ?_ (AaB ?_)).1
       ·simp [Try.f69,F5]
       ·simp [F5]
      ·replace hF:=AaG h11 hF;have h11_:=h11;try simp at h11_
       have F6:=A3 F4 h11 h11_;refine CF (by simp [F6] <;> omega) ?_;refine AW.skip ?_;refine hK216 _ _ _ ?_;exact JN (()) hF (by simp [F6]) (by simp [F6])
     ·replace hF:=AaG h7 hF;have h7_:=h7;try simp at h7_
      have F7:=A7 F1 h5 h5_ h6 h6_ h7 h7_;try simp [F7]
      and_intros <;> first | exact GK g | apply r | omega | (simp [maxLen,F7] <;> omega)
      refine WK [(0,Lz v0),(1,Iz v1),(2,Iz v2),(9,Lz v0),(10,Iz (v0.length : Int)),(11,Iz v4),(36,AV.bool false)] [] 0 (by simp [F7]) (by simp [F7]) ?_;refine CF (by simp [F7]) ?_;refine AW.skip ?_;refine hK216 _ _ _ ?_;exact JN (()) hF (by simp [F7]) (by simp [F7])
  ·rintro ⟨⟩ hF
   try dsimp only at hF
   unfold AaP.J2 at hF;refine RG [] [none,none] fun _ _ g r=>?_;try simp [h1,h1_]
   and_intros <;> first | exact GK g | apply r | omega | (simp [h1,h1_,maxLen] <;> omega)
   refine hK207 _ _ _ ?_;exact NX (k':=n1) (IntKind.wrap .i64 (v4+1)) hF (by simp [h1,h1_]) (by simp [h1,h1_])
 ·replace hF:=AaG h1 hF;have h1_:=h1;try simp at h1_
  refine CF (by simp [h1,h1_] <;> omega) ?_;refine AW.exit ?_;try simp
  refine hK167 _ _ _ ?_;refine SQ [] [none] fun _ _ g r=>?_;try simp [h1,h1_]
  and_intros <;> first | exact GK g | apply r | omega | (simp [h1,h1_,maxLen] <;> omega)
  refine WK [(6,AV.bool true)] [] 0 (by simp [h1,h1_]) (by simp [h1,h1_]) ?_;simp only [Option.some.injEq] at hF;subst hF;refine AW.ret (hQ _ _ _ ?_ (AaB ?_)).1
  ·simp [Try.f69,h1,h1_]
  ·simp [h1,h1_]
theorem Acl (k : Nat) (v0 : (List Int)) (v1 : Int) (v2 : Int) (hF : Aaa k v0 v1=some v2) :
 Aa0 Try.prog 128 [AV.lst false false (List.map (AV.int .i64) v0),AV.int .i64 v1] [] (AV.int .i64 v2) []:=by
 unfold Aaa at hF;refine EN Try.func128 ?_;intro c0 w0 Q h0 hQ
 refine WK [(0,Lz v0),(1,Iz v1)] [] 0 (by simp) (by simp) ?_;refine SQ [] [none] fun _ _ g r=>?_;try simp
 and_intros <;> first | exact GK g | apply r | omega | (simp [maxLen] <;> omega)
 refine WK [(0,Lz v0),(1,Iz v1)] [] 0 (by simp) (by simp) ?_;refine AW.seq fun K131 hK131=>?_;refine SQ [] [none,none,none] fun _ _ g r=>?_;try simp
 and_intros <;> first | exact GK g | apply r | omega | (simp [maxLen] <;> omega)
 refine WK [(0,Lz v0),(1,Iz v1),(7,Iz (v0.length : Int)),(8,Iz 0)] [] 0 (by simp) (by simp) ?_;refine AW.block ?_;refine AW.loopF (α:=Int) (fun n v3=>Aaa.L1 k v0 v1 n v3=some v2) (fun v3=>[(0,Lz v0),(1,Iz v1),(7,Iz (v0.length : Int)),(8,Iz v3)]) (fun v3=>[]) 0 k (0) hF (by simp) (by simp) (by simp) ?_;rintro (_|n1) v3 hF K163 hK163
 ·try dsimp only at hF
  rw [Aaa.L1] at hF; cases hF
 try dsimp only at hF
 rw [Aaa.L1] at hF;refine SQ [] [none] fun _ _ g r=>?_;try simp
 and_intros <;> first | exact GK g | apply r | omega | (simp [maxLen] <;> omega)
 refine WK [(0,Lz v0),(1,Iz v1),(7,Iz (v0.length : Int)),(8,Iz v3),(9,AV.bool (decide (v3<(v0.length : Int))))] [] 0 (by simp) (by simp) ?_;refine AW.seq fun K165 hK165=>?_;by_cases h1 : v3<(v0.length : Int)
 ·replace hF:=AaF h1 hF;have h1_:=h1;try simp at h1_
  refine CT (by simp [h1,h1_] <;> omega) ?_;refine AW.skip ?_;refine hK165 _ _ _ ?_;refine AW.seq fun K169 hK169=>?_;refine AW.block ?_;refine SQ [] [none,none] fun _ _ g r=>?_;try simp [h1,h1_]
  and_intros <;> first | exact GK g | apply r | omega | (simp [h1,h1_,maxLen] <;> omega)
  refine WK [(0,Lz v0),(1,Iz v1),(5,Iz v3),(7,Iz (v0.length : Int)),(8,Iz v3)] [] 0 (by simp [h1,h1_]) (by simp [h1,h1_]) ?_;refine SQ [] [none,none,none,none,none,none] fun _ _ g r=>?_;obtain ⟨v4,h2,h3,h4,hF⟩:=Aab hF;have h4_:=Aaw h4;try simp at h4_
  have h3_:=h3;try simp at h3_
  have F1:=A7 h1 h1_ h2 h3 h4 h4_ h3_;try simp [F1]
  and_intros <;> first | exact GK g | apply r | omega | (simp [maxLen,F1] <;> omega)
  refine WK [(0,Lz v0),(1,Iz v1),(5,Iz v3),(7,Iz (v0.length : Int)),(8,Iz v3),(16,AV.bool (v1==v4))] [] 0 (by simp [F1]) (by simp [F1]) ?_;by_cases h5 : v1=v4
  ·replace hF:=AaF h5 hF;have h5q : v1=v4:=h5;have h5_:=AbB h5q;have h5__:=AbA h5q;have F2:=A3 F1 h5_ h5__;refine CT (by simp [F2] <;> omega) ?_;refine SQ [] [none,none] fun _ _ g r=>?_;try simp [F2]
   and_intros <;> first | exact GK g | apply r | omega | (simp [maxLen,F2] <;> omega)
   refine WK [(4,Iz v3)] [] 0 (by simp [F2]) (by simp [F2]) ?_;simp only [Option.some.injEq] at hF;subst hF;refine AW.ret (hQ _ _ _ ?_ (AaB ?_)).1
   ·simp [Try.f128,F2]
   ·simp [F2]
  ·replace hF:=AaG h5 hF;have h5_:=Aa7 h5;have h5__:=Aa9 h5;have F3:=A4 F1 h5 h5_ h5__;refine CF (by simp [F3] <;> omega) ?_;refine AW.skip ?_;refine hK169 _ _ _ ?_;refine RG [] [none,none] fun _ _ g r=>?_;try simp [F3]
   and_intros <;> first | exact GK g | apply r | omega | (simp [maxLen,F3] <;> omega)
   refine hK163 _ _ _ ?_;exact NX (k':=n1) (IntKind.wrap .i64 (v3+1)) hF (by simp [F3]) (by simp [F3])
 ·replace hF:=AaG h1 hF;have h1_:=h1;try simp at h1_
  refine CF (by simp [h1,h1_] <;> omega) ?_;refine AW.exit ?_;try simp
  refine hK131 _ _ _ ?_;refine SQ [] [none] fun _ _ g r=>?_;try simp [h1,h1_]
  and_intros <;> first | exact GK g | apply r | omega | (simp [h1,h1_,maxLen] <;> omega)
  refine WK [(4,Iz (-1))] [] 0 (by simp [h1,h1_]) (by simp [h1,h1_]) ?_;simp only [Option.some.injEq] at hF;subst hF;refine AW.ret (hQ _ _ _ ?_ (AaB ?_)).1
  ·simp [Try.f128,h1,h1_]
  ·simp [h1,h1_]
theorem AbY (k : Nat) (v0 : (List Int)) (v1 : Int) (v2 : Bool) (hF : Aay k v0 v1=some v2) :
 Aa0 Try.prog 121 [AV.lst false false (List.map (AV.int .i64) v0),AV.int .i64 v1] [] (AV.bool v2) []:=by
 unfold Aay at hF;refine EN Try.func121 ?_;intro c0 w0 Q h0 hQ
 refine WK [(0,Lz v0),(1,Iz v1)] [] 0 (by simp) (by simp) ?_;refine SQ [] [none] fun _ _ g r=>?_;try simp
 and_intros <;> first | exact GK g | apply r | omega | (simp [maxLen] <;> omega)
 refine WK [(0,Lz v0),(1,Iz v1)] [] 0 (by simp) (by simp) ?_;refine SQ [] [none,none,none,none,none] fun _ _ g r=>?_;try simp
 and_intros
 try any_goals first | omega | (simp [maxLen] <;> omega)
 obtain ⟨v3,h1,hF⟩:=AaD hF;refine AC (Acl k _ _ _ h1) (.cons (.same (by simp)) (.cons (.same (by simp)) .nil)) ?_;try simp
 and_intros <;> first | exact GK g | apply r | omega | (simp [maxLen] <;> omega)
 refine WK [(4,AV.bool (decide (0≤v3)))] [] 0 (by simp) (by simp) ?_;simp only [Option.some.injEq] at hF;subst hF;refine AW.ret (hQ _ _ _ ?_ (AaB ?_)).1
 ·simp [Try.f121]
 ·simp
theorem Afl (k : Nat) (v0 : Int) (v1 : (List Aam)) (v2 : (List Int)) (v3 : Int) (v4 : Int) (v5 : Int) (v6 : Bool) (hF : Ad5 k v0 v1 v2 v3 v4 v5=some v6) :
 Aa0 Try.prog 106 [AV.agg [AV.int .i64 v0,Q0 v1,AV.lst false false (List.map (AV.int .i64) v2)],AV.agg [AV.int .i64 v3,AV.int .i64 v4,AV.int .i64 v5]] [] (AV.bool v6) []:=by
 unfold Ad5 at hF;refine EN Try.func106 ?_;intro c0 w0 Q h0 hQ
 refine WK [(0,AV.agg [Iz v0,Q0 v1,Lz v2]),(1,AV.agg [Iz v3,Iz v4,Iz v5])] [] 0 (by simp) (by simp) ?_;refine SQ [] [none,none,none] fun _ _ g r=>?_;try simp
 and_intros <;> first | exact GK g | apply r | omega | (simp [maxLen] <;> omega)
 refine WK [(2,AV.ptr 0 0),(3,AV.ptr 1 0)] [(0,.cells [Iz v0,Q0 v1,Lz v2]),(1,.cells [Iz v3,Iz v4,Iz v5])] 2 (by simp) (by simp) ?_;refine SQ [] [none,none,none,none,none,none,none,some (11,true),some (11,true),some (11,true),some (11,true),some (11,true),some (11,true),none,none,some (19,true),some (19,true),some (19,true),some (19,true),some (19,true),none,none,some (26,true),some (26,true),some (26,true),some (26,true),some (26,true),some (26,true),none,none,some (34,true),some (34,true),some (34,true),some (34,true),some (34,true),some (34,true),none,none] fun _ _ g r=>?_;try simp
 and_intros
 try any_goals first | omega | (simp [maxLen] <;> omega)
 obtain ⟨v7,h1,hF⟩:=AaD hF;refine AC (Abp k _ _ _ _ h1) (.cons (.same (by simp)) (.cons (.same (by simp)) (.cons (.same (by simp)) .nil))) ?_;by_cases h2 : v7=true
 ·replace hF:=AaF h2 hF;have h2_:=h2;try simp at h2_
  try simp [h2,h2_]
  and_intros
  try any_goals first | omega | (simp [h2,h2_,maxLen] <;> omega)
  obtain ⟨v8,h3,hF⟩:=AaD hF;refine AC (Abp k _ _ _ _ h3) (.cons (.same (by simp [h2,h2_])) (.cons (.same (by simp [h2,h2_])) (.cons (.same (by simp [h2,h2_])) .nil))) ?_;by_cases h4 : v8=true
  ·replace hF:=AaF h4 hF;have h4_:=h4;try simp at h4_
   by_cases h5 : v3≠v4
   ·replace hF:=AaF h5 hF;have h5_:=Aa7 h5;have h5__:=Aa9 h5;have F1:=A7 h2 h2_ h4 h4_ h5 h5_ h5__;try simp [F1]
    and_intros
    try any_goals first | omega | (simp [maxLen,F1] <;> omega)
    obtain ⟨v9,h6,hF⟩:=AaD hF;refine AC (AbY k _ _ _ h6) (.cons (.same (by simp [F1])) (.cons (.same (by simp [F1])) .nil)) ?_;by_cases h7 : (!v9)=true
    ·replace hF:=AaF h7 hF;have h7_:=h7;try simp at h7_
     have F2:=A3 F1 h7 h7_;try simp [F2]
     and_intros
     try any_goals first | omega | (simp [maxLen,F2] <;> omega)
     obtain ⟨v10,h8,hF⟩:=AaD hF;refine AC (AbY k _ _ _ h8) (.cons (.same (by simp [F2])) (.cons (.same (by simp [F2])) .nil)) ?_;try simp [F2]
     and_intros <;> first | exact GK g | apply r | omega | (simp [maxLen,F2] <;> omega)
     refine WK [(4,AV.bool (!v10))] [] 2 (by simp [F2]) (by simp [F2]) ?_;simp only [Option.some.injEq] at hF;subst hF;refine AW.ret (hQ _ _ _ ?_ (AaB ?_)).1
     ·simp [Try.f106,F2]
     ·simp [F2]
    ·replace hF:=AaG h7 hF;have h7_:=h7;try simp at h7_
     have F3:=A3 F1 h7 h7_;try simp [F3]
     and_intros <;> first | exact GK g | apply r | omega | (simp [maxLen,F3] <;> omega)
     refine WK [(4,AV.bool false)] [] 2 (by simp [F3]) (by simp [F3]) ?_;simp only [Option.some.injEq] at hF;subst hF;refine AW.ret (hQ _ _ _ ?_ (AaB ?_)).1
     ·simp [Try.f106,F3]
     ·simp [F3]
   ·replace hF:=AaG h5 hF;have h5q : v3=v4:=Classical.not_not.1 h5;have h5_:=AbB h5q;have h5__:=AbA h5q;have F4:=A6 h2 h2_ h4 h4_ h5_ h5__;try simp [F4]
    and_intros <;> first | exact GK g | apply r | omega | (simp [maxLen,F4] <;> omega)
    refine WK [(4,AV.bool false)] [] 2 (by simp [F4]) (by simp [F4]) ?_;simp only [Option.some.injEq] at hF;subst hF;refine AW.ret (hQ _ _ _ ?_ (AaB ?_)).1
    ·simp [Try.f106,F4]
    ·simp [F4]
  ·replace hF:=AaG h4 hF;have h4_:=h4;try simp at h4_
   have F5:=A4 h2 h2_ h4 h4_;try simp [F5]
   and_intros <;> first | exact GK g | apply r | omega | (simp [maxLen,F5] <;> omega)
   refine WK [(4,AV.bool false)] [] 2 (by simp [F5]) (by simp [F5]) ?_;simp only [Option.some.injEq] at hF;subst hF;refine AW.ret (hQ _ _ _ ?_ (AaB ?_)).1
   ·simp [Try.f106,F5]
   ·simp [F5]
 ·replace hF:=AaG h2 hF;have h2_:=h2;try simp at h2_
  try simp [h2,h2_]
  and_intros <;> first | exact GK g | apply r | omega | (simp [h2,h2_,maxLen] <;> omega)
  refine WK [(4,AV.bool false)] [] 2 (by simp [h2,h2_]) (by simp [h2,h2_]) ?_;simp only [Option.some.injEq] at hF;subst hF;refine AW.ret (hQ _ _ _ ?_ (AaB ?_)).1
  ·simp [Try.f106,h2,h2_]
  ·simp [h2,h2_]
theorem Acq (k : Nat) (v0 : Int) (v1 : Bool) (hF : Ab7 k v0=some v1) :
 Aa0 Try.prog 129 [AV.int .i64 v0] [] (AV.bool v1) []:=by
 unfold Ab7 at hF;refine EN Try.func129 ?_;intro c0 w0 Q h0 hQ
 refine WK [(0,Iz v0)] [] 0 (by simp) (by simp) ?_;refine SQ [] [none] fun _ _ g r=>?_;try simp
 and_intros <;> first | exact GK g | apply r | omega | (simp [maxLen] <;> omega)
 refine WK [(0,Iz v0)] [] 0 (by simp) (by simp) ?_;refine SQ [] [none,none,none,none] fun _ _ g r=>?_;try simp
 and_intros <;> first | exact GK g | apply r | omega | (simp [maxLen] <;> omega)
 refine WK [(2,AV.bool (v0 !=v0))] [] 0 (by simp) (by simp) ?_;simp only [Option.some.injEq] at hF;subst hF;refine AW.ret (hQ _ _ _ ?_ (AaB ?_)).1
 ·simp [Try.f129]
 ·simp
theorem AcQ (k : Nat) (v0 : Int) (v1 : Int) (v2 : Int) (hF : Abl k v0 v1=some v2) :
 Aa0 Try.prog 123 [AV.int .i64 v0,AV.int .i64 v1] [] (AV.int .i64 v2) []:=by
 unfold Abl at hF;refine EN Try.func123 ?_;intro c0 w0 Q h0 hQ
 refine WK [(0,Iz v0),(1,Iz v1)] [] 0 (by simp) (by simp) ?_;refine SQ [] [none] fun _ _ g r=>?_;try simp
 and_intros <;> first | exact GK g | apply r | omega | (simp [maxLen] <;> omega)
 refine WK [(0,Iz v0),(1,Iz v1)] [] 0 (by simp) (by simp) ?_;refine SQ [] [none,none,none] fun _ _ g r=>?_;try simp
 and_intros
 try any_goals first | omega | (simp [maxLen] <;> omega)
 obtain ⟨v3,h1,hF⟩:=AaD hF;refine AC (Acq k _ _ h1) (.cons (.same (by simp)) .nil) ?_;try simp
 and_intros <;> first | exact GK g | apply r | omega | (simp [maxLen] <;> omega)
 refine WK [(0,Iz v0),(1,Iz v1),(5,AV.bool v3)] [] 0 (by simp) (by simp) ?_;refine SQ [] [none,none,none] fun _ _ g r=>?_;try simp
 and_intros
 try any_goals first | omega | (simp [maxLen] <;> omega)
 obtain ⟨v4,h2,hF⟩:=AaD hF;refine AC (Acq k _ _ h2) (.cons (.same (by simp)) .nil) ?_;try simp
 and_intros <;> first | exact GK g | apply r | omega | (simp [maxLen] <;> omega)
 refine WK [(0,Iz v0),(1,Iz v1),(5,AV.bool v3),(6,AV.bool v4)] [] 0 (by simp) (by simp) ?_;refine AW.seq fun K45 hK45=>?_;refine SQ [] [none] fun _ _ g r=>?_;try simp
 and_intros <;> first | exact GK g | apply r | omega | (simp [maxLen] <;> omega)
 refine WK [(0,Iz v0),(1,Iz v1),(6,AV.bool v4),(11,AV.bool v3)] [] 0 (by simp) (by simp) ?_;by_cases h3 : v3=true
 ·replace hF:=AaF h3 hF;have h3_:=h3;try simp at h3_
  refine CT (by simp [h3,h3_] <;> omega) ?_;refine AW.seq fun K49 hK49=>?_;refine SQ [] [none] fun _ _ g r=>?_;try simp [h3,h3_]
  and_intros <;> first | exact GK g | apply r | omega | (simp [h3,h3_,maxLen] <;> omega)
  refine WK [(12,AV.bool v4)] [] 0 (by simp [h3,h3_]) (by simp [h3,h3_]) ?_;by_cases h4 : v4=true
  ·replace hF:=AaF h4 hF;have h4_:=h4;try simp at h4_
   have F1:=A4 h3 h3_ h4 h4_;refine CT (by simp [F1] <;> omega) ?_;refine SQ [] [none] fun _ _ g r=>?_;try simp [F1]
   and_intros <;> first | exact GK g | apply r | omega | (simp [maxLen,F1] <;> omega)
   refine WK [(4,Iz 0)] [] 0 (by simp [F1]) (by simp [F1]) ?_;simp only [Option.some.injEq] at hF;subst hF;refine AW.ret (hQ _ _ _ ?_ (AaB ?_)).1
   ·simp [Try.f123,F1]
   ·simp [F1]
  ·replace hF:=AaG h4 hF;have h4_:=h4;try simp at h4_
   have F2:=A4 h3 h3_ h4 h4_;refine CF (by simp [F2] <;> omega) ?_;refine AW.skip ?_;refine hK49 _ _ _ ?_;refine SQ [] [none] fun _ _ g r=>?_;try simp [F2]
   and_intros <;> first | exact GK g | apply r | omega | (simp [maxLen,F2] <;> omega)
   refine WK [(4,Iz (-1))] [] 0 (by simp [F2]) (by simp [F2]) ?_;simp only [Option.some.injEq] at hF;subst hF;refine AW.ret (hQ _ _ _ ?_ (AaB ?_)).1
   ·simp [Try.f123,F2]
   ·simp [F2]
 ·replace hF:=AaG h3 hF;have h3_:=h3;try simp at h3_
  refine CF (by simp [h3,h3_] <;> omega) ?_;refine AW.skip ?_;refine hK45 _ _ _ ?_;refine AW.seq fun K55 hK55=>?_;refine SQ [] [none] fun _ _ g r=>?_;try simp [h3,h3_]
  and_intros <;> first | exact GK g | apply r | omega | (simp [h3,h3_,maxLen] <;> omega)
  refine WK [(0,Iz v0),(1,Iz v1),(13,AV.bool v4)] [] 0 (by simp [h3,h3_]) (by simp [h3,h3_]) ?_;by_cases h5 : v4=true
  ·replace hF:=AaF h5 hF;have h5_:=h5;try simp at h5_
   have F3:=A4 h3 h3_ h5 h5_;refine CT (by simp [F3] <;> omega) ?_;refine SQ [] [none] fun _ _ g r=>?_;try simp [F3]
   and_intros <;> first | exact GK g | apply r | omega | (simp [maxLen,F3] <;> omega)
   refine WK [(4,Iz 1)] [] 0 (by simp [F3]) (by simp [F3]) ?_;simp only [Option.some.injEq] at hF;subst hF;refine AW.ret (hQ _ _ _ ?_ (AaB ?_)).1
   ·simp [Try.f123,F3]
   ·simp [F3]
  ·replace hF:=AaG h5 hF;have h5_:=h5;try simp at h5_
   have F4:=A4 h3 h3_ h5 h5_;refine CF (by simp [F4] <;> omega) ?_;refine AW.skip ?_;refine hK55 _ _ _ ?_;refine AW.seq fun K60 hK60=>?_;refine SQ [] [none,none,none] fun _ _ g r=>?_;try simp [F4]
   and_intros <;> first | exact GK g | apply r | omega | (simp [maxLen,F4] <;> omega)
   refine WK [(0,Iz v0),(1,Iz v1),(16,AV.bool (decide (v0<v1)))] [] 0 (by simp [F4]) (by simp [F4]) ?_;by_cases h6 : v0<v1
   ·replace hF:=AaF h6 hF;have h6_:=h6;try simp at h6_
    have F5:=A3 F4 h6 h6_;refine CT (by simp [F5] <;> omega) ?_;refine SQ [] [none] fun _ _ g r=>?_;try simp [F5]
    and_intros <;> first | exact GK g | apply r | omega | (simp [maxLen,F5] <;> omega)
    refine WK [(4,Iz (-1))] [] 0 (by simp [F5]) (by simp [F5]) ?_;simp only [Option.some.injEq] at hF;subst hF;refine AW.ret (hQ _ _ _ ?_ (AaB ?_)).1
    ·simp [Try.f123,F5]
    ·simp [F5]
   ·replace hF:=AaG h6 hF;have h6_:=h6;try simp at h6_
    have F6:=A3 F4 h6 h6_;refine CF (by simp [F6] <;> omega) ?_;refine AW.skip ?_;refine hK60 _ _ _ ?_;refine AW.seq fun K65 hK65=>?_;refine SQ [] [none,none,none] fun _ _ g r=>?_;try simp [F6]
    and_intros <;> first | exact GK g | apply r | omega | (simp [maxLen,F6] <;> omega)
    refine WK [(19,AV.bool (decide (v1<v0)))] [] 0 (by simp [F6]) (by simp [F6]) ?_;by_cases h7 : v1<v0
    ·replace hF:=AaF h7 hF;have h7_:=h7;try simp at h7_
     have F7:=A3 F6 h7 h7_;refine CT (by simp [F7] <;> omega) ?_;refine SQ [] [none] fun _ _ g r=>?_;try simp [F7]
     and_intros <;> first | exact GK g | apply r | omega | (simp [maxLen,F7] <;> omega)
     refine WK [(4,Iz 1)] [] 0 (by simp [F7]) (by simp [F7]) ?_;simp only [Option.some.injEq] at hF;subst hF;refine AW.ret (hQ _ _ _ ?_ (AaB ?_)).1
     ·simp [Try.f123,F7]
     ·simp [F7]
    ·replace hF:=AaG h7 hF;have h7_:=h7;try simp at h7_
     have F8:=A3 F6 h7 h7_;refine CF (by simp [F8] <;> omega) ?_;refine AW.skip ?_;refine hK65 _ _ _ ?_;refine SQ [] [none] fun _ _ g r=>?_;try simp [F8]
     and_intros <;> first | exact GK g | apply r | omega | (simp [maxLen,F8] <;> omega)
     refine WK [(4,Iz 0)] [] 0 (by simp [F8]) (by simp [F8]) ?_;simp only [Option.some.injEq] at hF;subst hF;refine AW.ret (hQ _ _ _ ?_ (AaB ?_)).1
     ·simp [Try.f123,F8]
     ·simp [F8]
theorem Afm (k : Nat) (v0 : (List Int)) (v1 : Int) (hF : AbW k v0=some v1) :
 Aa0 Try.prog 122 [AV.lst false false (List.map (AV.int .i64) v0)] [] (AV.int .i64 v1) []:=by
 unfold AbW at hF;refine EN Try.func122 ?_;intro c0 w0 Q h0 hQ
 refine WK [(0,Lz v0)] [] 0 (by simp) (by simp) ?_;refine SQ [] [none] fun _ _ g r=>?_;try simp
 and_intros <;> first | exact GK g | apply r | omega | (simp [maxLen] <;> omega)
 refine WK [(0,Lz v0)] [] 0 (by simp) (by simp) ?_;refine SQ [] [none] fun _ _ g r=>?_;try simp
 and_intros <;> first | exact GK g | apply r | omega | (simp [maxLen] <;> omega)
 refine WK [(0,Lz v0),(3,Iz 0)] [] 0 (by simp) (by simp) ?_;refine AW.seq fun K133 hK133=>?_;refine SQ [] [none,none,none] fun _ _ g r=>?_;try simp
 and_intros <;> first | exact GK g | apply r | omega | (simp [maxLen] <;> omega)
 refine WK [(3,Iz 0),(6,Lz v0),(7,Iz (v0.length : Int)),(8,Iz 0)] [] 0 (by simp) (by simp) ?_;refine AW.block ?_;refine AW.loopF (α:=Int) (fun n v2=>AbW.L1 k v0 n v2=some v1) (fun v2=>[(3,Iz 0),(6,Lz v0),(7,Iz (v0.length : Int)),(8,Iz v2)]) (fun v2=>[]) 0 k (0) hF (by simp) (by simp) (by simp) ?_;rintro (_|n1) v2 hF K165 hK165
 ·try dsimp only at hF
  rw [AbW.L1] at hF; cases hF
 try dsimp only at hF
 rw [AbW.L1] at hF;refine SQ [] [none] fun _ _ g r=>?_;try simp
 and_intros <;> first | exact GK g | apply r | omega | (simp [maxLen] <;> omega)
 refine WK [(3,Iz 0),(6,Lz v0),(7,Iz (v0.length : Int)),(8,Iz v2),(9,AV.bool (decide (v2<(v0.length : Int))))] [] 0 (by simp) (by simp) ?_;refine AW.seq fun K167 hK167=>?_;by_cases h1 : v2<(v0.length : Int)
 ·replace hF:=AaF h1 hF;have h1_:=h1;try simp at h1_
  refine CT (by simp [h1,h1_] <;> omega) ?_;refine AW.skip ?_;refine hK167 _ _ _ ?_;refine AW.seq fun K171 hK171=>?_;refine AW.block ?_;refine SQ [] [none,none,none] fun _ _ g r=>?_;obtain ⟨v3,h2,h3,h4,hF⟩:=Aab hF;have h4_:=Aaw h4;try simp at h4_
  have h3_:=h3;try simp at h3_
  have F1:=A7 h1 h1_ h2 h3 h4 h4_ h3_;try simp [F1]
  and_intros <;> first | exact GK g | apply r | omega | (simp [maxLen,F1] <;> omega)
  refine WK [(3,Iz 0),(5,Iz v3),(6,Lz v0),(7,Iz (v0.length : Int)),(8,Iz v2)] [] 0 (by simp [F1]) (by simp [F1]) ?_;refine SQ [] [none,none,none] fun _ _ g r=>?_;try simp [F1]
  and_intros <;> first | exact GK g | apply r | omega | (simp [maxLen,F1] <;> omega)
  refine WK [(3,Iz 0),(5,Iz v3),(6,Lz v0),(7,Iz (v0.length : Int)),(8,Iz v2),(14,AV.bool (v3 !=0))] [] 0 (by simp [F1]) (by simp [F1]) ?_;by_cases h5 : v3≠0
  ·replace hF:=AaF h5 hF;have h5_:=Aa7 h5;have h5__:=Aa9 h5;have F2:=A4 F1 h5 h5_ h5__;refine CT (by simp [F2] <;> omega) ?_;refine SQ [] [none,none] fun _ _ g r=>?_;try simp [F2]
   and_intros <;> first | exact GK g | apply r | omega | (simp [maxLen,F2] <;> omega)
   refine WK [(2,Iz v3)] [] 0 (by simp [F2]) (by simp [F2]) ?_;simp only [Option.some.injEq] at hF;subst hF;refine AW.ret (hQ _ _ _ ?_ (AaB ?_)).1
   ·simp [Try.f122,F2]
   ·simp [F2]
  ·replace hF:=AaG h5 hF;have h5q : v3=0:=Classical.not_not.1 h5;have h5_:=AbB h5q;have h5__:=AbA h5q;have F3:=A4 F1 h5_ h5__ h5q;refine CF (by simp [F3] <;> omega) ?_;refine AW.skip ?_;refine hK171 _ _ _ ?_;refine RG [] [none,none] fun _ _ g r=>?_;try simp [F3]
   and_intros <;> first | exact GK g | apply r | omega | (simp [maxLen,F3] <;> omega)
   refine hK165 _ _ _ ?_;exact NX (k':=n1) (IntKind.wrap .i64 (v2+1)) hF (by simp [F3]) (by simp [F3])
 ·replace hF:=AaG h1 hF;have h1_:=h1;try simp at h1_
  refine CF (by simp [h1,h1_] <;> omega) ?_;refine AW.exit ?_;try simp
  refine hK133 _ _ _ ?_;refine SQ [] [none,none] fun _ _ g r=>?_;try simp [h1,h1_]
  and_intros <;> first | exact GK g | apply r | omega | (simp [h1,h1_,maxLen] <;> omega)
  refine WK [(2,Iz 0)] [] 0 (by simp [h1,h1_]) (by simp [h1,h1_]) ?_;simp only [Option.some.injEq] at hF;subst hF;refine AW.ret (hQ _ _ _ ?_ (AaB ?_)).1
  ·simp [Try.f122,h1,h1_]
  ·simp [h1,h1_]
theorem AeT (k : Nat) (v0 : Int) (v1 : Int) (v2 : Int) (v3 : Int) (v4 : Int) (v5 : Int) (v6 : Int) (hF : Ach k v0 v1 v2 v3 v4 v5=some v6) :
 Aa0 Try.prog 107 [AV.agg [AV.int .i64 v0,AV.int .i64 v1,AV.int .i64 v2],AV.agg [AV.int .i64 v3,AV.int .i64 v4,AV.int .i64 v5]] [] (AV.int .i64 v6) []:=by
 unfold Ach at hF;refine EN Try.func107 ?_;intro c0 w0 Q h0 hQ
 refine WK [(0,AV.agg [Iz v0,Iz v1,Iz v2]),(1,AV.agg [Iz v3,Iz v4,Iz v5])] [] 0 (by simp) (by simp) ?_;refine SQ [] [none,none,none] fun _ _ g r=>?_;try simp
 and_intros <;> first | exact GK g | apply r | omega | (simp [maxLen] <;> omega)
 refine WK [(2,AV.ptr 0 0),(3,AV.ptr 1 0)] [(0,.cells [Iz v0,Iz v1,Iz v2]),(1,.cells [Iz v3,Iz v4,Iz v5])] 2 (by simp) (by simp) ?_;refine SQ [] [none,none,none,none,none,none,none,none,none,none,none,none,none] fun _ _ g r=>?_;try simp
 and_intros
 try any_goals first | omega | (simp [maxLen] <;> omega)
 obtain ⟨v7,h1,hF⟩:=AaD hF;refine AC (AcQ k _ _ _ h1) (.cons (.same (by simp)) (.cons (.same (by simp)) .nil)) ?_;try simp
 and_intros
 try any_goals first | omega | (simp [maxLen] <;> omega)
 obtain ⟨v8,h2,hF⟩:=AaD hF;refine AC (AcQ k _ _ _ h2) (.cons (.same (by simp)) (.cons (.same (by simp)) .nil)) ?_;try simp
 and_intros
 try any_goals first | omega | (simp [maxLen] <;> omega)
 obtain ⟨v9,h3,hF⟩:=AaD hF;refine AC (Afm k _ _ h3) (.cons (Coe.fl (by simp)) .nil) ?_;try simp
 and_intros <;> first | exact GK g | apply r | omega | (simp [maxLen] <;> omega)
 refine WK [(4,Iz v9)] [] 2 (by simp) (by simp) ?_;simp only [Option.some.injEq] at hF;subst hF;refine AW.ret (hQ _ _ _ ?_ (AaB ?_)).1
 ·simp [Try.f107]
 ·simp
theorem AfM (k : Nat) (v0 : Int) (v1 : (List Aam)) (v2 : (List Int)) (v3 : Int) (hF : Aad k v0 v1 v2=some v3) :
 Aa0 Try.prog 68 [AV.agg [AV.int .i64 v0,Q0 v1,AV.lst false false (List.map (AV.int .i64) v2)]] [] (AV.int .i64 v3) []:=by
 unfold Aad at hF;refine EN Try.func68 ?_;intro c0 w0 Q h0 hQ
 refine WK [(0,AV.agg [Iz v0,Q0 v1,Lz v2])] [] 0 (by simp) (by simp) ?_;refine SQ [] [none,none] fun _ _ g r=>?_;try simp
 and_intros <;> first | exact GK g | apply r | omega | (simp [maxLen] <;> omega)
 refine WK [(1,AV.ptr 0 0)] [(0,.cells [Iz v0,Q0 v1,Lz v2])] 1 (by simp) (by simp) ?_;refine AW.seq fun K126 hK126=>?_;refine SQ [] [none,none,none,none,none,some (9,false),some (9,false),some (9,false),some (9,false),none,none,some (15,false),some (15,false),some (15,false),some (15,false),some (15,false),some (15,false),some (15,false),none] fun _ _ g r=>?_;try simp
 and_intros
 try any_goals first | omega | (simp [maxLen] <;> omega)
 obtain ⟨v4,h1,hF⟩:=AaD hF;refine AC (Abp k _ _ _ _ h1) (.cons (.same (by simp)) (.cons (.same (by simp)) (.cons (.same (by simp)) .nil))) ?_;by_cases h2 : (!v4)=true
 ·replace hF:=AaF h2 hF;have h2_:=h2;try simp at h2_
  try simp [h2,h2_]
  and_intros <;> first | exact GK g | apply r | omega | (simp [h2,h2_,maxLen] <;> omega)
  refine WK [(1,AV.ptr 0 0),(23,AV.bool true)] [(0,.cells [Iz v0,Q0 v1,Lz v2])] 1 (by simp [h2,h2_]) (by simp [h2,h2_]) ?_;refine CT (by simp [h2,h2_]) ?_;refine SQ [] [none] fun _ _ g r=>?_;try simp [h2,h2_]
  and_intros <;> first | exact GK g | apply r | omega | (simp [h2,h2_,maxLen] <;> omega)
  refine WK [(2,Iz 14)] [] 1 (by simp [h2,h2_]) (by simp [h2,h2_]) ?_;simp only [Option.some.injEq] at hF;subst hF;refine AW.ret (hQ _ _ _ ?_ (AaB ?_)).1
  ·simp [Try.f68,h2,h2_]
  ·simp [h2,h2_]
 ·replace hF:=AaG h2 hF;have h2_:=h2;try simp at h2_
  by_cases h3 : 500<(v1.length : Int)
  ·replace hF:=AaF h3 hF;have h3_:=h3;try simp at h3_
   have F1:=A4 h2 h2_ h3 h3_;try simp [F1]
   and_intros <;> first | exact GK g | apply r | omega | (simp [maxLen,F1] <;> omega)
   refine WK [(1,AV.ptr 0 0),(23,AV.bool true)] [(0,.cells [Iz v0,Q0 v1,Lz v2])] 1 (by simp [F1]) (by simp [F1]) ?_;refine CT (by simp [F1]) ?_;refine SQ [] [none] fun _ _ g r=>?_;try simp [F1]
   and_intros <;> first | exact GK g | apply r | omega | (simp [maxLen,F1] <;> omega)
   refine WK [(2,Iz 14)] [] 1 (by simp [F1]) (by simp [F1]) ?_;simp only [Option.some.injEq] at hF;subst hF;refine AW.ret (hQ _ _ _ ?_ (AaB ?_)).1
   ·simp [Try.f68,F1]
   ·simp [F1]
  ·replace hF:=AaG h3 hF;have h3_:=h3;try simp at h3_
   have F2:=A4 h2 h2_ h3 h3_;try simp [F2]
   and_intros
   try any_goals first | omega | (simp [maxLen,F2] <;> omega)
   obtain ⟨v5,h4,hF⟩:=AaD hF;refine AC (AdI k _ _ _ _ h4) (.cons (.same (by simp [F2])) (.cons (.same (by simp [F2])) (.cons (.same (by simp [F2])) .nil))) ?_;try simp [F2]
   and_intros <;> first | exact GK g | apply r | omega | (simp [maxLen,F2] <;> omega)
   refine WK [(1,AV.ptr 0 0),(23,AV.bool (!v5))] [(0,.cells [Iz v0,Q0 v1,Lz v2])] 1 (by simp [F2]) (by simp [F2]) ?_;by_cases h5 : (!v5)=true
   ·replace hF:=AaF h5 hF;have h5_:=h5;try simp at h5_
    have F3:=A3 F2 h5 h5_;refine CT (by simp [F3] <;> omega) ?_;refine SQ [] [none] fun _ _ g r=>?_;try simp [F3]
    and_intros <;> first | exact GK g | apply r | omega | (simp [maxLen,F3] <;> omega)
    refine WK [(2,Iz 14)] [] 1 (by simp [F3]) (by simp [F3]) ?_;simp only [Option.some.injEq] at hF;subst hF;refine AW.ret (hQ _ _ _ ?_ (AaB ?_)).1
    ·simp [Try.f68,F3]
    ·simp [F3]
   ·replace hF:=AaG h5 hF;have h5_:=h5;try simp at h5_
    have F4:=A3 F2 h5 h5_;refine CF (by simp [F4] <;> omega) ?_;refine AW.skip ?_;refine hK126 _ _ _ ?_;refine AW.seq fun K185 hK185=>?_;refine SQ [] [none,none,none,none] fun _ _ g r=>?_;try simp [F4]
    and_intros <;> first | exact GK g | apply r | omega | (simp [maxLen,F4] <;> omega)
    refine WK [(1,AV.ptr 0 0),(25,Q0 v1),(26,Iz (v1.length : Int)),(27,Iz 0)] [(0,.cells [Iz v0,Q0 v1,Lz v2])] 1 (by simp [F4]) (by simp [F4]) ?_;refine AW.block ?_;refine AW.loopF (α:=Int) (fun n v6=>Aad.L1 k v0 v1 v2 n v6=some v3) (fun v6=>[(1,AV.ptr 0 0),(25,Q0 v1),(26,Iz (v1.length : Int)),(27,Iz v6)]) (fun v6=>[(0,.cells [Iz v0,Q0 v1,Lz v2])]) 1 k (0) hF (by simp [F4]) (by simp [F4]) (by simp) ?_;rintro (_|n1) v6 hF K225 hK225
    ·try dsimp only at hF
     rw [Aad.L1] at hF; cases hF
    try dsimp only at hF
    rw [Aad.L1] at hF;refine SQ [] [none] fun _ _ g r=>?_;try simp [F4]
    and_intros <;> first | exact GK g | apply r | omega | (simp [maxLen,F4] <;> omega)
    refine WK [(1,AV.ptr 0 0),(25,Q0 v1),(26,Iz (v1.length : Int)),(27,Iz v6),(28,AV.bool (decide (v6<(v1.length : Int))))] [(0,.cells [Iz v0,Q0 v1,Lz v2])] 1 (by simp [F4]) (by simp [F4]) ?_;refine AW.seq fun K227 hK227=>?_;by_cases h6 : v6<(v1.length : Int)
    ·replace hF:=AaF h6 hF;have h6_:=h6;try simp at h6_
     have F5:=A3 F4 h6 h6_;refine CT (by simp [F5] <;> omega) ?_;refine AW.skip ?_;refine hK227 _ _ _ ?_;refine AW.midF (α:=Unit) (fun _=>Aad.J2 k v6 (fun v6_=>Aad.L1 k v0 v1 v2 n1 v6_)=some v3) (fun _=>[(1,AV.ptr 0 0),(25,Q0 v1),(26,Iz (v1.length : Int)),(27,Iz v6)]) (fun _=>[(0,.cells [Iz v0,Q0 v1,Lz v2])]) 1 (fun K234 hK234=>?_) ?_
     ·refine AW.block ?_;refine SQ [] [none,none,none,none,none,none] fun _ _ g r=>?_;obtain ⟨v7,h7,h8,h9,hF⟩:=Aab hF;have h9_:=Aaw h9;try simp at h9_
      have h8_:=h8;try simp at h8_
      have F6:=A6 F5 h7 h8 h9 h9_ h8_;try simp [F6]
      and_intros <;> first | exact GK g | apply r | omega | (simp [maxLen,F6] <;> omega)
      refine WK [(1,AV.ptr 0 0),(3,Iz v6),(4,AV.ptr 1 0),(25,Q0 v1),(26,Iz (v1.length : Int)),(27,Iz v6)] [(0,.cells [Iz v0,Q0 v1,Lz v2]),(1,.cells [Iz v7.From,Iz v7.To,Iz v7.Level])] 2 (by simp [F6]) (by simp [F6]) ?_;refine SQ [] [none,none,none,none,none,some (36,false),some (36,false),some (36,false),some (36,false),none,none,some (42,false),some (42,false),some (42,false),some (45,true),some (45,true),some (45,true),some (45,true),some (45,true),some (45,true),some (45,true),some (45,true),some (45,true),some (42,false),none] fun _ _ g r=>?_;try simp [F6]
      and_intros
      try any_goals first | omega | (simp [maxLen,F6] <;> omega)
      obtain ⟨v8,h10,hF⟩:=AaD hF;refine AC (Afl k _ _ _ _ _ _ _ h10) (.cons (.same (by simp [F6])) (.cons (.same (by simp [F6])) .nil)) ?_;by_cases h11 : (!v8)=true
      ·replace hF:=AaF h11 hF;have h11_:=h11;try simp at h11_
       have F7:=A3 F6 h11 h11_;try simp [F7]
       and_intros <;> first | exact GK g | apply r | omega | (simp [maxLen,F7] <;> omega)
       refine WK [(1,AV.ptr 0 0),(25,Q0 v1),(26,Iz (v1.length : Int)),(27,Iz v6),(56,AV.bool true)] [(0,.cells [Iz v0,Q0 v1,Lz v2])] 2 (by simp [F7]) (by simp [F7]) ?_;refine CT (by simp [F7]) ?_;refine SQ [] [none] fun _ _ g r=>?_;try simp [F7]
       and_intros <;> first | exact GK g | apply r | omega | (simp [maxLen,F7] <;> omega)
       refine WK [(2,Iz 14)] [] 2 (by simp [F7]) (by simp [F7]) ?_;simp only [Option.some.injEq] at hF;subst hF;refine AW.ret (hQ _ _ _ ?_ (AaB ?_)).1
       ·simp [Try.f68,F7]
       ·simp [F7]
      ·replace hF:=AaG h11 hF;have h11_:=h11;try simp at h11_
       have F8:=A3 F6 h11 h11_;try simp [F8]
       and_intros
       try any_goals first | omega | (simp [maxLen,F8] <;> omega)
       obtain ⟨v9,h12,hF⟩:=AaD hF;refine AC (Abp k _ _ _ _ h12) (.cons (.same (by simp [F8])) (.cons (.same (by simp [F8])) (.cons (.same (by simp [F8])) .nil))) ?_;by_cases h13 : (!v9)=true
       ·replace hF:=AaF h13 hF;have h13_:=h13;try simp at h13_
        have F9:=A3 F8 h13 h13_;try simp [F9]
        and_intros <;> first | exact GK g | apply r | omega | (simp [maxLen,F9] <;> omega)
        refine WK [(1,AV.ptr 0 0),(25,Q0 v1),(26,Iz (v1.length : Int)),(27,Iz v6),(56,AV.bool true)] [(0,.cells [Iz v0,Q0 v1,Lz v2])] 2 (by simp [F9]) (by simp [F9]) ?_;refine CT (by simp [F9]) ?_;refine SQ [] [none] fun _ _ g r=>?_;try simp [F9]
        and_intros <;> first | exact GK g | apply r | omega | (simp [maxLen,F9] <;> omega)
        refine WK [(2,Iz 14)] [] 2 (by simp [F9]) (by simp [F9]) ?_;simp only [Option.some.injEq] at hF;subst hF;refine AW.ret (hQ _ _ _ ?_ (AaB ?_)).1
        ·simp [Try.f68,F9]
        ·simp [F9]
       ·replace hF:=AaG h13 hF;have h13_:=h13;try simp at h13_
        by_cases h14 : 0<v6
        ·replace hF:=AaF h14 hF;have h14_:=h14;try simp at h14_
         obtain ⟨v10,h15,h16,h17,hF⟩:=Aab hF;have h17_:=Aaw h17;try simp at h17_
         have h16_:=h16;try simp at h16_
         have F10:=A9 F8 h13 h13_ h14 h14_ h15 h16 h17 (A2 h17_ h16_);try simp [F10]
         and_intros
         try any_goals first | omega | (simp [maxLen,F10] <;> omega)
         obtain ⟨v11,h18,hF⟩:=AaD hF;refine AC (AeT k _ _ _ _ _ _ _ h18) (.cons (.same (by simp [F10])) (.cons (.same (by simp [F10])) .nil)) ?_;try simp [F10]
         and_intros <;> first | exact GK g | apply r | omega | (simp [maxLen,F10] <;> omega)
         refine WK [(1,AV.ptr 0 0),(25,Q0 v1),(26,Iz (v1.length : Int)),(27,Iz v6),(56,AV.bool (decide (0≤v11)))] [(0,.cells [Iz v0,Q0 v1,Lz v2])] 2 (by simp [F10]) (by simp [F10]) ?_;by_cases h19 : 0≤v11
         ·replace hF:=AaF h19 hF;have h19_:=h19;try simp at h19_
          have F11:=A3 F10 h19 h19_;refine CT (by simp [F11] <;> omega) ?_;refine SQ [] [none] fun _ _ g r=>?_;try simp [F11]
          and_intros <;> first | exact GK g | apply r | omega | (simp [maxLen,F11] <;> omega)
          refine WK [(2,Iz 14)] [] 2 (by simp [F11]) (by simp [F11]) ?_;simp only [Option.some.injEq] at hF;subst hF;refine AW.ret (hQ _ _ _ ?_ (AaB ?_)).1
          ·simp [Try.f68,F11]
          ·simp [F11]
         ·replace hF:=AaG h19 hF;have h19_:=h19;try simp at h19_
          have F12:=A3 F10 h19 h19_;refine CF (by simp [F12] <;> omega) ?_;refine AW.skip ?_;refine hK234 _ _ _ ?_;refine RN h0 [(0,0)] [(1,AV.ptr 0 0),(25,Q0 v1),(26,Iz (v1.length : Int)),(27,Iz v6)] [(0,.cells [Iz v0,Q0 v1,Lz v2])] 1 (by simp [F12]) (by simp [F12]) ?_;exact JN (()) hF (by simp [F12]) (by simp [F12])
        ·replace hF:=AaG h14 hF;have h14_:=h14;try simp at h14_
         have F13:=A5 F8 h13 h13_ h14 h14_;try simp [F13]
         and_intros <;> first | exact GK g | apply r | omega | (simp [maxLen,F13] <;> omega)
         refine WK [(1,AV.ptr 0 0),(25,Q0 v1),(26,Iz (v1.length : Int)),(27,Iz v6),(56,AV.bool false)] [(0,.cells [Iz v0,Q0 v1,Lz v2])] 2 (by simp [F13]) (by simp [F13]) ?_;refine CF (by simp [F13]) ?_;refine AW.skip ?_;refine hK234 _ _ _ ?_;refine RN h0 [(0,0)] [(1,AV.ptr 0 0),(25,Q0 v1),(26,Iz (v1.length : Int)),(27,Iz v6)] [(0,.cells [Iz v0,Q0 v1,Lz v2])] 1 (by simp [F13]) (by simp [F13]) ?_;exact JN (()) hF (by simp [F13]) (by simp [F13])
     ·rintro ⟨⟩ hF
      try dsimp only at hF
      unfold Aad.J2 at hF;refine RG [] [none,none] fun _ _ g r=>?_;try simp [F5]
      and_intros <;> first | exact GK g | apply r | omega | (simp [maxLen,F5] <;> omega)
      refine hK225 _ _ _ ?_;exact NX (k':=n1) (IntKind.wrap .i64 (v6+1)) hF (by simp [F5]) (by simp [F5])
    ·replace hF:=AaG h6 hF;have h6_:=h6;try simp at h6_
     have F14:=A3 F4 h6 h6_;refine CF (by simp [F14] <;> omega) ?_;refine AW.exit ?_;try simp
     refine hK185 _ _ _ ?_;refine SQ [] [none] fun _ _ g r=>?_;try simp [F14]
     and_intros <;> first | exact GK g | apply r | omega | (simp [maxLen,F14] <;> omega)
     refine WK [(2,Iz 0)] [] 1 (by simp [F14]) (by simp [F14]) ?_;simp only [Option.some.injEq] at hF;subst hF;refine AW.ret (hQ _ _ _ ?_ (AaB ?_)).1
     ·simp [Try.f68,F14]
     ·simp [F14]
theorem AeD (k : Nat) (v0 : Int) (v1 : (List Aam)) (v2 : (List Int)) (v3 : (List Int)) (v4 : (List Int)) (v5 : Int) (v6 : Int) (hF : AaK k v0 v1 v2 v3 v4 v5=some v6) :
 Aa0 Try.prog 36 [AV.agg [AV.int .i64 v0,Q0 v1,AV.lst false false (List.map (AV.int .i64) v2)],AV.agg [AV.lst false false (List.map (AV.int .i64) v3),AV.lst false false (List.map (AV.int .i64) v4),AV.int .i64 v5]] [] (AV.int .i64 v6) []:=by
 unfold AaK at hF;refine EN Try.func36 ?_;intro c0 w0 Q h0 hQ
 refine WK [(0,AV.agg [Iz v0,Q0 v1,Lz v2]),(1,AV.agg [Lz v3,Lz v4,Iz v5])] [] 0 (by simp) (by simp) ?_;refine SQ [] [none,none,none] fun _ _ g r=>?_;try simp
 and_intros <;> first | exact GK g | apply r | omega | (simp [maxLen] <;> omega)
 refine WK [(2,AV.ptr 0 0),(3,AV.ptr 1 0)] [(0,.cells [Iz v0,Q0 v1,Lz v2]),(1,.cells [Lz v3,Lz v4,Iz v5])] 2 (by simp) (by simp) ?_;refine AW.seq fun K118 hK118=>?_;refine SQ [] [none,none,none] fun _ _ g r=>?_;try simp
 and_intros
 try any_goals first | omega | (simp [maxLen] <;> omega)
 obtain ⟨v7,h1,hF⟩:=AaD hF;refine AC (AfM k _ _ _ _ h1) (.cons (.same (by simp)) .nil) ?_;try simp
 and_intros <;> first | exact GK g | apply r | omega | (simp [maxLen] <;> omega)
 refine WK [(2,AV.ptr 0 0),(3,AV.ptr 1 0),(5,Iz v7)] [(0,.cells [Iz v0,Q0 v1,Lz v2]),(1,.cells [Lz v3,Lz v4,Iz v5])] 2 (by simp) (by simp) ?_;refine SQ [] [none,none] fun _ _ g r=>?_;try simp
 and_intros <;> first | exact GK g | apply r | omega | (simp [maxLen] <;> omega)
 refine WK [(2,AV.ptr 0 0),(3,AV.ptr 1 0),(5,Iz v7),(11,AV.bool (v7 !=0))] [(0,.cells [Iz v0,Q0 v1,Lz v2]),(1,.cells [Lz v3,Lz v4,Iz v5])] 2 (by simp) (by simp) ?_;by_cases h2 : v7≠0
 ·replace hF:=AaF h2 hF;have h2_:=Aa7 h2;have h2__:=Aa9 h2;have F1:=A3 h2 h2_ h2__;refine CT (by simp [F1] <;> omega) ?_;refine SQ [] [none,none] fun _ _ g r=>?_;try simp [F1]
  and_intros <;> first | exact GK g | apply r | omega | (simp [maxLen,F1] <;> omega)
  refine WK [(4,Iz v7)] [] 2 (by simp [F1]) (by simp [F1]) ?_;simp only [Option.some.injEq] at hF;subst hF;refine AW.ret (hQ _ _ _ ?_ (AaB ?_)).1
  ·simp [Try.f36,F1]
  ·simp [F1]
 ·replace hF:=AaG h2 hF;have h2q : v7=0:=Classical.not_not.1 h2;have h2_:=AbB h2q;have h2__:=AbA h2q;refine CF (by simp [h2_,h2__,h2q] <;> omega) ?_;refine AW.skip ?_;refine hK118 _ _ _ ?_;refine AW.seq fun K127 hK127=>?_;refine SQ [] [none,none,none,none,none,some (17,false),some (17,false),some (17,false),some (17,false),some (17,false),some (17,false),some (17,false),none,none,some (26,false),some (26,false),some (26,false),some (26,false),some (26,false),none,none,some (33,false),some (33,false),some (33,false),some (33,false),none] fun _ _ g r=>?_;by_cases h3 : (v3.length : Int)=0
  ·replace hF:=AaF h3 hF;have h3q : (v3.length : Int)=0:=h3;have h3_:=AbB h3q;have h3__:=AbA h3q;have F2:=A6 h2_ h2__ h2q h3_ h3__ h3q;try simp [F2]
   and_intros <;> first | exact GK g | apply r | omega | (simp [maxLen,F2] <;> omega)
   refine WK [(3,AV.ptr 1 0),(38,AV.bool true)] [(1,.cells [Lz v3,Lz v4,Iz v5])] 2 (by simp [F2]) (by simp [F2]) ?_;refine CT (by simp [F2]) ?_;refine SQ [] [none] fun _ _ g r=>?_;try simp [F2]
   and_intros <;> first | exact GK g | apply r | omega | (simp [maxLen,F2] <;> omega)
   refine WK [(4,Iz 15)] [] 2 (by simp [F2]) (by simp [F2]) ?_;simp only [Option.some.injEq] at hF;subst hF;refine AW.ret (hQ _ _ _ ?_ (AaB ?_)).1
   ·simp [Try.f36,F2]
   ·simp [F2]
  ·replace hF:=AaG h3 hF;have h3_:=Aa7 h3;have h3__:=Aa9 h3;have F3:=A6 h2_ h2__ h2q h3 h3_ h3__;try simp [F3]
   and_intros
   try any_goals first | omega | (simp [maxLen,F3] <;> omega)
   obtain ⟨v8,h4,hF⟩:=AaD hF;refine AC (AdI k _ _ _ _ h4) (.cons (.same (by simp [F3])) (.cons (.same (by simp [F3])) (.cons (.same (by simp [F3])) .nil))) ?_;by_cases h5 : (!v8)=true
   ·replace hF:=AaF h5 hF;have h5_:=h5;try simp at h5_
    have F4:=A3 F3 h5 h5_;try simp [F4]
    and_intros <;> first | exact GK g | apply r | omega | (simp [maxLen,F4] <;> omega)
    refine WK [(3,AV.ptr 1 0),(38,AV.bool true)] [(1,.cells [Lz v3,Lz v4,Iz v5])] 2 (by simp [F4]) (by simp [F4]) ?_;refine CT (by simp [F4]) ?_;refine SQ [] [none] fun _ _ g r=>?_;try simp [F4]
    and_intros <;> first | exact GK g | apply r | omega | (simp [maxLen,F4] <;> omega)
    refine WK [(4,Iz 15)] [] 2 (by simp [F4]) (by simp [F4]) ?_;simp only [Option.some.injEq] at hF;subst hF;refine AW.ret (hQ _ _ _ ?_ (AaB ?_)).1
    ·simp [Try.f36,F4]
    ·simp [F4]
   ·replace hF:=AaG h5 hF;have h5_:=h5;try simp at h5_
    have F5:=A3 F3 h5 h5_;try simp [F5]
    and_intros
    try any_goals first | omega | (simp [maxLen,F5] <;> omega)
    obtain ⟨v9,h6,hF⟩:=AaD hF;refine AC (Abp k _ _ _ _ h6) (.cons (.same (by simp [F5])) (.cons (.same (by simp [F5])) (.cons (.same (by simp [F5])) .nil))) ?_;by_cases h7 : (!v9)=true
    ·replace hF:=AaF h7 hF;have h7_:=h7;try simp at h7_
     have F6:=A3 F5 h7 h7_;try simp [F6]
     and_intros <;> first | exact GK g | apply r | omega | (simp [maxLen,F6] <;> omega)
     refine WK [(3,AV.ptr 1 0),(38,AV.bool true)] [(1,.cells [Lz v3,Lz v4,Iz v5])] 2 (by simp [F6]) (by simp [F6]) ?_;refine CT (by simp [F6]) ?_;refine SQ [] [none] fun _ _ g r=>?_;try simp [F6]
     and_intros <;> first | exact GK g | apply r | omega | (simp [maxLen,F6] <;> omega)
     refine WK [(4,Iz 15)] [] 2 (by simp [F6]) (by simp [F6]) ?_;simp only [Option.some.injEq] at hF;subst hF;refine AW.ret (hQ _ _ _ ?_ (AaB ?_)).1
     ·simp [Try.f36,F6]
     ·simp [F6]
    ·replace hF:=AaG h7 hF;have h7_:=h7;try simp at h7_
     have F7:=A3 F5 h7 h7_;try simp [F7]
     and_intros
     try any_goals first | omega | (simp [maxLen,F7] <;> omega)
     obtain ⟨v10,h8,hF⟩:=AaD hF;refine AC (Abp k _ _ _ _ h8) (.cons (.same (by simp [F7])) (.cons (.same (by simp [F7])) (.cons (.same (by simp [F7])) .nil))) ?_;try simp [F7]
     and_intros <;> first | exact GK g | apply r | omega | (simp [maxLen,F7] <;> omega)
     refine WK [(3,AV.ptr 1 0),(38,AV.bool (!v10))] [(1,.cells [Lz v3,Lz v4,Iz v5])] 2 (by simp [F7]) (by simp [F7]) ?_;by_cases h9 : (!v10)=true
     ·replace hF:=AaF h9 hF;have h9_:=h9;try simp at h9_
      have F8:=A3 F7 h9 h9_;refine CT (by simp [F8] <;> omega) ?_;refine SQ [] [none] fun _ _ g r=>?_;try simp [F8]
      and_intros <;> first | exact GK g | apply r | omega | (simp [maxLen,F8] <;> omega)
      refine WK [(4,Iz 15)] [] 2 (by simp [F8]) (by simp [F8]) ?_;simp only [Option.some.injEq] at hF;subst hF;refine AW.ret (hQ _ _ _ ?_ (AaB ?_)).1
      ·simp [Try.f36,F8]
      ·simp [F8]
     ·replace hF:=AaG h9 hF;have h9_:=h9;try simp at h9_
      have F9:=A3 F7 h9 h9_;refine CF (by simp [F9] <;> omega) ?_;refine AW.skip ?_;refine hK127 _ _ _ ?_;refine AW.seq fun K179 hK179=>?_;refine SQ [] [none,none,none,none] fun _ _ g r=>?_;try simp [F9]
      and_intros <;> first | exact GK g | apply r | omega | (simp [maxLen,F9] <;> omega)
      refine WK [(3,AV.ptr 1 0),(40,Lz v4),(41,Iz (v4.length : Int)),(42,Iz 0)] [(1,.cells [Lz v3,Lz v4,Iz v5])] 2 (by simp [F9]) (by simp [F9]) ?_;refine AW.block ?_;refine RM h0 [(0,1)] [(3,AV.ptr 0 0),(40,Lz v4),(41,Iz (v4.length : Int)),(42,Iz 0)] [(0,.cells [Lz v3,Lz v4,Iz v5])] 1 (by simp [F9]) (by simp [F9]) ?_;refine AW.loopF (α:=Int) (fun n v11=>AaK.L1 k v4 n v11=some v6) (fun v11=>[(3,AV.ptr 0 0),(40,Lz v4),(41,Iz (v4.length : Int)),(42,Iz v11)]) (fun v11=>[(0,.cells [Lz v3,Lz v4,Iz v5])]) 1 k (0) hF (by simp [F9]) (by simp [F9]) (by simp) ?_;rintro (_|n1) v11 hF K213 hK213
      ·try dsimp only at hF
       rw [AaK.L1] at hF; cases hF
      try dsimp only at hF
      rw [AaK.L1] at hF;refine SQ [] [none] fun _ _ g r=>?_;try simp [F9]
      and_intros <;> first | exact GK g | apply r | omega | (simp [maxLen,F9] <;> omega)
      refine WK [(3,AV.ptr 0 0),(40,Lz v4),(41,Iz (v4.length : Int)),(42,Iz v11),(43,AV.bool (decide (v11<(v4.length : Int))))] [(0,.cells [Lz v3,Lz v4,Iz v5])] 1 (by simp [F9]) (by simp [F9]) ?_;refine AW.seq fun K215 hK215=>?_;by_cases h10 : v11<(v4.length : Int)
      ·replace hF:=AaF h10 hF;have h10_:=h10;try simp at h10_
       have F10:=A3 F9 h10 h10_;refine CT (by simp [F10] <;> omega) ?_;refine AW.skip ?_;refine hK215 _ _ _ ?_;refine AW.midF (α:=Unit) (fun _=>AaK.J2 k v11 (fun v11_=>AaK.L1 k v4 n1 v11_)=some v6) (fun _=>[(3,AV.ptr 0 0),(40,Lz v4),(41,Iz (v4.length : Int)),(42,Iz v11)]) (fun _=>[(0,.cells [Lz v3,Lz v4,Iz v5])]) 1 (fun K221 hK221=>?_) ?_
       ·refine AW.block ?_;refine SQ [] [none,none,none,none,none] fun _ _ g r=>?_;obtain ⟨v12,h11,h12,h13,hF⟩:=Aab hF;have h13_:=Aaw h13;try simp at h13_
        have h12_:=h12;try simp at h12_
        have F11:=A6 F10 h11 h12 h13 h13_ h12_;try simp [F11]
        and_intros <;> first | exact GK g | apply r | omega | (simp [maxLen,F11] <;> omega)
        refine WK [(3,AV.ptr 0 0),(6,Iz v11),(7,Iz v12),(40,Lz v4),(41,Iz (v4.length : Int)),(42,Iz v11)] [(0,.cells [Lz v3,Lz v4,Iz v5])] 1 (by simp [F11]) (by simp [F11]) ?_;refine SQ [] [none,none,none,none,some (50,false),some (50,false),some (50,false),some (53,true),some (53,true),some (53,true),some (53,true),some (53,true),some (53,true),some (53,true),some (53,true),some (50,false),none] fun _ _ g r=>?_;try simp [F11]
        and_intros
        try any_goals first | omega | (simp [maxLen,F11] <;> omega)
        obtain ⟨v13,h14,hF⟩:=AaD hF;refine AC (Abp k _ _ _ _ h14) (.cons (.same (by simp [F11])) (.cons (.same (by simp [F11])) (.cons (.same (by simp [F11])) .nil))) ?_;by_cases h15 : (!v13)=true
        ·replace hF:=AaF h15 hF;have h15_:=h15;try simp at h15_
         have F12:=A3 F11 h15 h15_;try simp [F12]
         and_intros <;> first | exact GK g | apply r | omega | (simp [maxLen,F12] <;> omega)
         refine WK [(3,AV.ptr 0 0),(40,Lz v4),(41,Iz (v4.length : Int)),(42,Iz v11),(63,AV.bool true)] [(0,.cells [Lz v3,Lz v4,Iz v5])] 1 (by simp [F12]) (by simp [F12]) ?_;refine CT (by simp [F12]) ?_;refine SQ [] [none] fun _ _ g r=>?_;try simp [F12]
         and_intros <;> first | exact GK g | apply r | omega | (simp [maxLen,F12] <;> omega)
         refine WK [(4,Iz 15)] [] 1 (by simp [F12]) (by simp [F12]) ?_;simp only [Option.some.injEq] at hF;subst hF;refine AW.ret (hQ _ _ _ ?_ (AaB ?_)).1
         ·simp [Try.f36,F12]
         ·simp [F12]
        ·replace hF:=AaG h15 hF;have h15_:=h15;try simp at h15_
         by_cases h16 : 0<v11
         ·replace hF:=AaF h16 hF;have h16_:=h16;try simp at h16_
          obtain ⟨v14,h17,h18,h19,hF⟩:=Aab hF;have h19_:=Aaw h19;try simp at h19_
          have h18_:=h18;try simp at h18_
          have F13:=A9 F11 h15 h15_ h16 h16_ h17 h18 h19 (A2 h19_ h18_);try simp [F13]
          and_intros <;> first | exact GK g | apply r | omega | (simp [maxLen,F13] <;> omega)
          refine WK [(3,AV.ptr 0 0),(40,Lz v4),(41,Iz (v4.length : Int)),(42,Iz v11),(63,AV.bool (decide (v14<v12)))] [(0,.cells [Lz v3,Lz v4,Iz v5])] 1 (by simp [F13]) (by simp [F13]) ?_;by_cases h20 : v14<v12
          ·replace hF:=AaF h20 hF;have h20_:=h20;try simp at h20_
           have F14:=A3 F13 h20 h20_;refine CT (by simp [F14] <;> omega) ?_;refine SQ [] [none] fun _ _ g r=>?_;try simp [F14]
           and_intros <;> first | exact GK g | apply r | omega | (simp [maxLen,F14] <;> omega)
           refine WK [(4,Iz 15)] [] 1 (by simp [F14]) (by simp [F14]) ?_;simp only [Option.some.injEq] at hF;subst hF;refine AW.ret (hQ _ _ _ ?_ (AaB ?_)).1
           ·simp [Try.f36,F14]
           ·simp [F14]
          ·replace hF:=AaG h20 hF;have h20_:=h20;try simp at h20_
           have F15:=A3 F13 h20 h20_;refine CF (by simp [F15] <;> omega) ?_;refine AW.skip ?_;refine hK221 _ _ _ ?_;exact JN (()) hF (by simp [F15]) (by simp [F15])
         ·replace hF:=AaG h16 hF;have h16_:=h16;try simp at h16_
          have F16:=A5 F11 h15 h15_ h16 h16_;try simp [F16]
          and_intros <;> first | exact GK g | apply r | omega | (simp [maxLen,F16] <;> omega)
          refine WK [(3,AV.ptr 0 0),(40,Lz v4),(41,Iz (v4.length : Int)),(42,Iz v11),(63,AV.bool false)] [(0,.cells [Lz v3,Lz v4,Iz v5])] 1 (by simp [F16]) (by simp [F16]) ?_;refine CF (by simp [F16]) ?_;refine AW.skip ?_;refine hK221 _ _ _ ?_;exact JN (()) hF (by simp [F16]) (by simp [F16])
       ·rintro ⟨⟩ hF
        try dsimp only at hF
        unfold AaK.J2 at hF;refine RG [] [none,none] fun _ _ g r=>?_;try simp [F10]
        and_intros <;> first | exact GK g | apply r | omega | (simp [maxLen,F10] <;> omega)
        refine hK213 _ _ _ ?_;exact NX (k':=n1) (IntKind.wrap .i64 (v11+1)) hF (by simp [F10]) (by simp [F10])
      ·replace hF:=AaG h10 hF;have h10_:=h10;try simp at h10_
       have F17:=A3 F9 h10 h10_;refine CF (by simp [F17] <;> omega) ?_;refine AW.exit ?_;try simp
       refine hK179 _ _ _ ?_;refine SQ [] [none] fun _ _ g r=>?_;try simp [F17]
       and_intros <;> first | exact GK g | apply r | omega | (simp [maxLen,F17] <;> omega)
       refine WK [(4,Iz 0)] [] 1 (by simp [F17]) (by simp [F17]) ?_;simp only [Option.some.injEq] at hF;subst hF;refine AW.ret (hQ _ _ _ ?_ (AaB ?_)).1
       ·simp [Try.f36,F17]
       ·simp [F17]
theorem Abv (k : Nat) (v0 : (List Int)) (v1 : (List Int)) (v2 : (List Int)) (v3 : Int) (v4 : Int) (v5 : Int) (v6 : Int) (v7 : Int) (hF : AbD k v0 v1 v2 v3 v4 v5 v6=some v7) :
 Aa0 Try.prog 12 [AV.agg [AV.lst false false (List.map (AV.int .i64) v0),AV.lst false false (List.map (AV.int .i64) v1),AV.lst false false (List.map (AV.int .i64) v2),AV.int .i64 v3,AV.int .i64 v4,AV.int .i64 v5,AV.int .i64 v6]] [] (AV.int .i64 v7) []:=by
 unfold AbD at hF;refine EN Try.func12 ?_;intro c0 w0 Q h0 hQ
 refine WK [(0,AV.agg [Lz v0,Lz v1,Lz v2,Iz v3,Iz v4,Iz v5,Iz v6])] [] 0 (by simp) (by simp) ?_;refine SQ [] [none,none] fun _ _ g r=>?_;try simp
 and_intros <;> first | exact GK g | apply r | omega | (simp [maxLen] <;> omega)
 refine WK [(1,AV.ptr 0 0)] [(0,.cells [Lz v0,Lz v1,Lz v2,Iz v3,Iz v4,Iz v5,Iz v6])] 1 (by simp) (by simp) ?_;refine AW.seq fun K33 hK33=>?_;refine SQ [] [none,none,none,none] fun _ _ g r=>?_;try simp
 and_intros
 try any_goals first | omega | (simp [maxLen] <;> omega)
 obtain ⟨v8,h1,hF⟩:=AaD hF;refine AC (AdH k _ _ h1) (.cons (.same (by simp)) .nil) ?_;try simp
 and_intros <;> first | exact GK g | apply r | omega | (simp [maxLen] <;> omega)
 refine WK [(1,AV.ptr 0 0),(7,AV.bool (!v8))] [(0,.cells [Lz v0,Lz v1,Lz v2,Iz v3,Iz v4,Iz v5,Iz v6])] 1 (by simp) (by simp) ?_;by_cases h2 : (!v8)=true
 ·replace hF:=AaF h2 hF;have h2_:=h2;try simp at h2_
  refine CT (by simp [h2,h2_] <;> omega) ?_;refine SQ [] [none] fun _ _ g r=>?_;try simp [h2,h2_]
  and_intros <;> first | exact GK g | apply r | omega | (simp [h2,h2_,maxLen] <;> omega)
  refine WK [(2,Iz 43)] [] 1 (by simp [h2,h2_]) (by simp [h2,h2_]) ?_;simp only [Option.some.injEq] at hF;subst hF;refine AW.ret (hQ _ _ _ ?_ (AaB ?_)).1
  ·simp [Try.f12,h2,h2_]
  ·simp [h2,h2_]
 ·replace hF:=AaG h2 hF;have h2_:=h2;try simp at h2_
  refine CF (by simp [h2,h2_] <;> omega) ?_;refine AW.skip ?_;refine hK33 _ _ _ ?_;refine AW.seq fun K39 hK39=>?_;refine SQ [] [none,none,none,none,none] fun _ _ g r=>?_;try simp [h2,h2_]
  and_intros
  try any_goals first | omega | (simp [h2,h2_,maxLen] <;> omega)
  obtain ⟨v9,h3,hF⟩:=AaD hF;refine AC (AeD k _ _ _ _ _ _ _ h3) (.cons (.agg (.cons (.same (by simp [h2,h2_])) (.cons (Coe.fl (by simp [h2,h2_])) (.cons (Coe.fl (by simp [h2,h2_])) .nil)))) (.cons (.same (by simp [h2,h2_])) .nil)) ?_;try simp [h2,h2_]
  and_intros <;> first | exact GK g | apply r | omega | (simp [h2,h2_,maxLen] <;> omega)
  refine WK [(1,AV.ptr 0 0),(3,Iz v9)] [(0,.cells [Lz v0,Lz v1,Lz v2,Iz v3,Iz v4,Iz v5,Iz v6])] 1 (by simp [h2,h2_]) (by simp [h2,h2_]) ?_;refine SQ [] [none,none] fun _ _ g r=>?_;try simp [h2,h2_]
  and_intros <;> first | exact GK g | apply r | omega | (simp [h2,h2_,maxLen] <;> omega)
  refine WK [(1,AV.ptr 0 0),(3,Iz v9),(13,AV.bool (v9 !=0))] [(0,.cells [Lz v0,Lz v1,Lz v2,Iz v3,Iz v4,Iz v5,Iz v6])] 1 (by simp [h2,h2_]) (by simp [h2,h2_]) ?_;by_cases h4 : v9≠0
  ·replace hF:=AaF h4 hF;have h4_:=Aa7 h4;have h4__:=Aa9 h4;have F1:=A5 h2 h2_ h4 h4_ h4__;refine CT (by simp [F1] <;> omega) ?_;refine SQ [] [none,none] fun _ _ g r=>?_;try simp [F1]
   and_intros <;> first | exact GK g | apply r | omega | (simp [maxLen,F1] <;> omega)
   refine WK [(2,Iz v9)] [] 1 (by simp [F1]) (by simp [F1]) ?_;simp only [Option.some.injEq] at hF;subst hF;refine AW.ret (hQ _ _ _ ?_ (AaB ?_)).1
   ·simp [Try.f12,F1]
   ·simp [F1]
  ·replace hF:=AaG h4 hF;have h4q : v9=0:=Classical.not_not.1 h4;have h4_:=AbB h4q;have h4__:=AbA h4q;refine CF (by simp [h2,h2_,h4_,h4__,h4q] <;> omega) ?_;refine AW.skip ?_;refine hK39 _ _ _ ?_;refine AW.seq fun K50 hK50=>?_;refine SQ [] [none,none,none,none,some (18,false),some (18,false),some (18,false),none,none,some (23,false),some (23,false),some (23,false),none,none,some (28,false),some (28,false),some (28,false),none,none,some (33,false),some (33,false),some (33,false),none,none,some (38,false),some (38,false),some (38,false),none] fun _ _ g r=>?_;by_cases h5 : v4<1
   ·replace hF:=AaF h5 hF;have h5_:=h5;try simp at h5_
    have F2:=A7 h2 h2_ h4_ h4__ h4q h5 h5_;try simp [F2]
    and_intros <;> first | exact GK g | apply r | omega | (simp [maxLen,F2] <;> omega)
    refine WK [(42,AV.bool true)] [] 1 (by simp [F2]) (by simp [F2]) ?_;refine CT (by simp [F2]) ?_;refine SQ [] [none] fun _ _ g r=>?_;try simp [F2]
    and_intros <;> first | exact GK g | apply r | omega | (simp [maxLen,F2] <;> omega)
    refine WK [(2,Iz 40)] [] 1 (by simp [F2]) (by simp [F2]) ?_;simp only [Option.some.injEq] at hF;subst hF;refine AW.ret (hQ _ _ _ ?_ (AaB ?_)).1
    ·simp [Try.f12,F2]
    ·simp [F2]
   ·replace hF:=AaG h5 hF;have h5_:=h5;try simp at h5_
    by_cases h6 : 9<v4
    ·replace hF:=AaF h6 hF;have h6_:=h6;try simp at h6_
     have F3:=A9 h2 h2_ h4_ h4__ h4q h5 h5_ h6 h6_;try simp [F3]
     and_intros <;> first | exact GK g | apply r | omega | (simp [maxLen,F3] <;> omega)
     refine WK [(42,AV.bool true)] [] 1 (by simp [F3]) (by simp [F3]) ?_;refine CT (by simp [F3]) ?_;refine SQ [] [none] fun _ _ g r=>?_;try simp [F3]
     and_intros <;> first | exact GK g | apply r | omega | (simp [maxLen,F3] <;> omega)
     refine WK [(2,Iz 40)] [] 1 (by simp [F3]) (by simp [F3]) ?_;simp only [Option.some.injEq] at hF;subst hF;refine AW.ret (hQ _ _ _ ?_ (AaB ?_)).1
     ·simp [Try.f12,F3]
     ·simp [F3]
    ·replace hF:=AaG h6 hF;have h6_:=h6;try simp at h6_
     by_cases h7 : v5<1
     ·replace hF:=AaF h7 hF;have h7_:=h7;try simp at h7_
      have F4:=A9 h2 h2_ h4_ h4__ h4q h5 h5_ h6 (A3 h6_ h7 h7_);try simp [F4]
      and_intros <;> first | exact GK g | apply r | omega | (simp [maxLen,F4] <;> omega)
      refine WK [(42,AV.bool true)] [] 1 (by simp [F4]) (by simp [F4]) ?_;refine CT (by simp [F4]) ?_;refine SQ [] [none] fun _ _ g r=>?_;try simp [F4]
      and_intros <;> first | exact GK g | apply r | omega | (simp [maxLen,F4] <;> omega)
      refine WK [(2,Iz 40)] [] 1 (by simp [F4]) (by simp [F4]) ?_;simp only [Option.some.injEq] at hF;subst hF;refine AW.ret (hQ _ _ _ ?_ (AaB ?_)).1
      ·simp [Try.f12,F4]
      ·simp [F4]
     ·replace hF:=AaG h7 hF;have h7_:=h7;try simp at h7_
      by_cases h8 : 1000000<v5
      ·replace hF:=AaF h8 hF;have h8_:=h8;try simp at h8_
       have F5:=A9 h2 h2_ h4_ h4__ h4q h5 h5_ h6 (A5 h6_ h7 h7_ h8 h8_);try simp [F5]
       and_intros <;> first | exact GK g | apply r | omega | (simp [maxLen,F5] <;> omega)
       refine WK [(42,AV.bool true)] [] 1 (by simp [F5]) (by simp [F5]) ?_;refine CT (by simp [F5]) ?_;refine SQ [] [none] fun _ _ g r=>?_;try simp [F5]
       and_intros <;> first | exact GK g | apply r | omega | (simp [maxLen,F5] <;> omega)
       refine WK [(2,Iz 40)] [] 1 (by simp [F5]) (by simp [F5]) ?_;simp only [Option.some.injEq] at hF;subst hF;refine AW.ret (hQ _ _ _ ?_ (AaB ?_)).1
       ·simp [Try.f12,F5]
       ·simp [F5]
      ·replace hF:=AaG h8 hF;have h8_:=h8;try simp at h8_
       by_cases h9 : v6<0
       ·replace hF:=AaF h9 hF;have h9_:=h9;try simp at h9_
        have F6:=A9 h2 h2_ h4_ h4__ h4q h5 h5_ h6 (A7 h6_ h7 h7_ h8 h8_ h9 h9_);try simp [F6]
        and_intros <;> first | exact GK g | apply r | omega | (simp [maxLen,F6] <;> omega)
        refine WK [(42,AV.bool true)] [] 1 (by simp [F6]) (by simp [F6]) ?_;refine CT (by simp [F6]) ?_;refine SQ [] [none] fun _ _ g r=>?_;try simp [F6]
        and_intros <;> first | exact GK g | apply r | omega | (simp [maxLen,F6] <;> omega)
        refine WK [(2,Iz 40)] [] 1 (by simp [F6]) (by simp [F6]) ?_;simp only [Option.some.injEq] at hF;subst hF;refine AW.ret (hQ _ _ _ ?_ (AaB ?_)).1
        ·simp [Try.f12,F6]
        ·simp [F6]
       ·replace hF:=AaG h9 hF;have h9_:=h9;try simp at h9_
        have F7:=A9 h2 h2_ h4_ h4__ h4q h5 h5_ h6 (A7 h6_ h7 h7_ h8 h8_ h9 h9_);try simp [F7]
        and_intros <;> first | exact GK g | apply r | omega | (simp [maxLen,F7] <;> omega)
        refine WK [(42,AV.bool (decide (64<v6)))] [] 1 (by simp [F7]) (by simp [F7]) ?_;by_cases h10 : 64<v6
        ·replace hF:=AaF h10 hF;have h10_:=h10;try simp at h10_
         have F8:=A3 F7 h10 h10_;refine CT (by simp [F8] <;> omega) ?_;refine SQ [] [none] fun _ _ g r=>?_;try simp [F8]
         and_intros <;> first | exact GK g | apply r | omega | (simp [maxLen,F8] <;> omega)
         refine WK [(2,Iz 40)] [] 1 (by simp [F8]) (by simp [F8]) ?_;simp only [Option.some.injEq] at hF;subst hF;refine AW.ret (hQ _ _ _ ?_ (AaB ?_)).1
         ·simp [Try.f12,F8]
         ·simp [F8]
        ·replace hF:=AaG h10 hF;have h10_:=h10;try simp at h10_
         have F9:=A3 F7 h10 h10_;refine CF (by simp [F9] <;> omega) ?_;refine AW.skip ?_;refine hK50 _ _ _ ?_;refine SQ [] [none] fun _ _ g r=>?_;try simp [F9]
         and_intros <;> first | exact GK g | apply r | omega | (simp [maxLen,F9] <;> omega)
         refine WK [(2,Iz 0)] [] 1 (by simp [F9]) (by simp [F9]) ?_;simp only [Option.some.injEq] at hF;subst hF;refine AW.ret (hQ _ _ _ ?_ (AaB ?_)).1
         ·simp [Try.f12,F9]
         ·simp [F9]
theorem AfJ (k : Nat) (v0 : (List Int)) (v1 : Bool) (hF : AaY k v0=some v1) :
 Aa0 Try.prog 37 [AV.lst false false (List.map (AV.int .i64) v0)] [] (AV.bool v1) []:=by
 unfold AaY at hF;refine EN Try.func37 ?_;intro c0 w0 Q h0 hQ
 refine WK [(0,Lz v0)] [] 0 (by simp) (by simp) ?_;refine SQ [] [none] fun _ _ g r=>?_;try simp
 and_intros <;> first | exact GK g | apply r | omega | (simp [maxLen] <;> omega)
 refine WK [(0,Lz v0)] [] 0 (by simp) (by simp) ?_;refine AW.seq fun K115 hK115=>?_;refine SQ [] [none,none,none,none,some (7,false),some (7,false),some (7,false),none] fun _ _ g r=>?_;by_cases h1 : (v0.length : Int)=0
 ·replace hF:=AaF h1 hF;have h1q : (v0.length : Int)=0:=h1;have h1_:=AbB h1q;have h1__:=AbA h1q;have F1:=A3 h1_ h1__ h1q;try simp [F1]
  and_intros <;> first | exact GK g | apply r | omega | (simp [maxLen,F1] <;> omega)
  refine WK [(0,Lz v0),(11,AV.bool true)] [] 0 (by simp [F1]) (by simp [F1]) ?_;refine CT (by simp [F1]) ?_;refine SQ [] [none] fun _ _ g r=>?_;try simp [F1]
  and_intros <;> first | exact GK g | apply r | omega | (simp [maxLen,F1] <;> omega)
  refine WK [(2,AV.bool false)] [] 0 (by simp [F1]) (by simp [F1]) ?_;simp only [Option.some.injEq] at hF;subst hF;refine AW.ret (hQ _ _ _ ?_ (AaB ?_)).1
  ·simp [Try.f37,F1]
  ·simp [F1]
 ·replace hF:=AaG h1 hF;have h1_:=Aa7 h1;have h1__:=Aa9 h1;have F2:=A3 h1 h1_ h1__;try simp [F2]
  and_intros <;> first | exact GK g | apply r | omega | (simp [maxLen,F2] <;> omega)
  refine WK [(0,Lz v0),(11,AV.bool (decide (64<(v0.length : Int))))] [] 0 (by simp [F2]) (by simp [F2]) ?_;by_cases h2 : 64<(v0.length : Int)
  ·replace hF:=AaF h2 hF;have h2_:=h2;try simp at h2_
   have F3:=A3 F2 h2 h2_;refine CT (by simp [F3] <;> omega) ?_;refine SQ [] [none] fun _ _ g r=>?_;try simp [F3]
   and_intros <;> first | exact GK g | apply r | omega | (simp [maxLen,F3] <;> omega)
   refine WK [(2,AV.bool false)] [] 0 (by simp [F3]) (by simp [F3]) ?_;simp only [Option.some.injEq] at hF;subst hF;refine AW.ret (hQ _ _ _ ?_ (AaB ?_)).1
   ·simp [Try.f37,F3]
   ·simp [F3]
  ·replace hF:=AaG h2 hF;have h2_:=h2;try simp at h2_
   have F4:=A3 F2 h2 h2_;refine CF (by simp [F4] <;> omega) ?_;refine AW.skip ?_;refine hK115 _ _ _ ?_;refine AW.seq fun K169 hK169=>?_;refine SQ [] [none] fun _ _ g r=>?_;try simp [F4]
   and_intros <;> first | exact GK g | apply r | omega | (simp [maxLen,F4] <;> omega)
   refine WK [(0,Lz v0),(3,Iz 0)] [] 0 (by simp [F4]) (by simp [F4]) ?_;refine AW.block ?_;refine AW.loopF (α:=Int) (fun n v2=>AaY.L1 k v0 n v2=some v1) (fun v2=>[(0,Lz v0),(3,Iz v2)]) (fun v2=>[]) 0 k (0) hF (by simp [F4]) (by simp [F4]) (by simp) ?_;rintro (_|n1) v2 hF K206 hK206
   ·try dsimp only at hF
    rw [AaY.L1] at hF; cases hF
   try dsimp only at hF
   rw [AaY.L1] at hF;refine AW.seq fun K208 hK208=>?_;refine SQ [] [none,none,none,none] fun _ _ g r=>?_;try simp [F4]
   and_intros <;> first | exact GK g | apply r | omega | (simp [maxLen,F4] <;> omega)
   refine WK [(0,Lz v0),(3,Iz v2),(15,AV.bool (decide (v2<(v0.length : Int))))] [] 0 (by simp [F4]) (by simp [F4]) ?_;by_cases h3 : v2<(v0.length : Int)
   ·replace hF:=AaF h3 hF;have h3_:=h3;try simp at h3_
    have F5:=A3 F4 h3 h3_;refine CT (by simp [F5] <;> omega) ?_;refine AW.skip ?_;refine hK208 _ _ _ ?_;refine AW.midF (α:=Unit) (fun _=>AaY.J2 k v2 (fun v2_=>AaY.L1 k v0 n1 v2_)=some v1) (fun _=>[(0,Lz v0),(3,Iz v2)]) (fun _=>[]) 0 (fun K215 hK215=>?_) ?_
    ·refine AW.block ?_;refine SQ [] [none,none,none,none,none,none,some (23,false),some (23,false),some (23,false),some (23,false),some (23,false),none,none,some (30,false),some (30,false),some (30,false),some (33,true),some (33,true),some (33,true),some (33,true),some (33,true),some (33,true),some (33,true),some (33,true),some (33,true),some (33,true),some (30,false),none] fun _ _ g r=>?_;obtain ⟨v3,h4,h5,h6,hF⟩:=Aab hF;have h6_:=Aaw h6;try simp at h6_
     have h5_:=h5;try simp at h5_
     by_cases h7 : v3<0
     ·replace hF:=AaF h7 hF;have h7_:=h7;try simp at h7_
      have F6:=A8 F5 h4 h5 h6 h6_ h5_ h7 h7_;try simp [F6]
      and_intros <;> first | exact GK g | apply r | omega | (simp [maxLen,F6] <;> omega)
      refine WK [(0,Lz v0),(3,Iz v2),(45,AV.bool true)] [] 0 (by simp [F6]) (by simp [F6]) ?_;refine CT (by simp [F6]) ?_;refine SQ [] [none] fun _ _ g r=>?_;try simp [F6]
      and_intros <;> first | exact GK g | apply r | omega | (simp [maxLen,F6] <;> omega)
      refine WK [(2,AV.bool false)] [] 0 (by simp [F6]) (by simp [F6]) ?_;simp only [Option.some.injEq] at hF;subst hF;refine AW.ret (hQ _ _ _ ?_ (AaB ?_)).1
      ·simp [Try.f37,F6]
      ·simp [F6]
     ·replace hF:=AaG h7 hF;have h7_:=h7;try simp at h7_
      by_cases h8 : 64≤v3
      ·replace hF:=AaF h8 hF;have h8_:=h8;try simp at h8_
       have F7:=A9 F5 h4 h5 h6 h6_ h5_ h7 h7_ (A2 h8 h8_);try simp [F7]
       and_intros <;> first | exact GK g | apply r | omega | (simp [maxLen,F7] <;> omega)
       refine WK [(0,Lz v0),(3,Iz v2),(45,AV.bool true)] [] 0 (by simp [F7]) (by simp [F7]) ?_;refine CT (by simp [F7]) ?_;refine SQ [] [none] fun _ _ g r=>?_;try simp [F7]
       and_intros <;> first | exact GK g | apply r | omega | (simp [maxLen,F7] <;> omega)
       refine WK [(2,AV.bool false)] [] 0 (by simp [F7]) (by simp [F7]) ?_;simp only [Option.some.injEq] at hF;subst hF;refine AW.ret (hQ _ _ _ ?_ (AaB ?_)).1
       ·simp [Try.f37,F7]
       ·simp [F7]
      ·replace hF:=AaG h8 hF;have h8_:=h8;try simp at h8_
       by_cases h9 : 0<v2
       ·replace hF:=AaF h9 hF;have h9_:=h9;try simp at h9_
        obtain ⟨v4,h10,h11,h12,hF⟩:=Aab hF;have h12_:=Aaw h12;try simp at h12_
        have h11_:=h11;try simp at h11_
        have F8:=A9 F5 h4 h5 h6 h6_ h5_ h7 h7_ (A9 h8 h8_ h9 h9_ h10 h11 h12 h12_ h11_);try simp [F8]
        and_intros <;> first | exact GK g | apply r | omega | (simp [maxLen,F8] <;> omega)
        refine WK [(0,Lz v0),(3,Iz v2),(45,AV.bool (decide (v3≤v4)))] [] 0 (by simp [F8]) (by simp [F8]) ?_;by_cases h13 : v3≤v4
        ·replace hF:=AaF h13 hF;have h13_:=h13;try simp at h13_
         have F9:=A3 F8 h13 h13_;refine CT (by simp [F9] <;> omega) ?_;refine SQ [] [none] fun _ _ g r=>?_;try simp [F9]
         and_intros <;> first | exact GK g | apply r | omega | (simp [maxLen,F9] <;> omega)
         refine WK [(2,AV.bool false)] [] 0 (by simp [F9]) (by simp [F9]) ?_;simp only [Option.some.injEq] at hF;subst hF;refine AW.ret (hQ _ _ _ ?_ (AaB ?_)).1
         ·simp [Try.f37,F9]
         ·simp [F9]
        ·replace hF:=AaG h13 hF;have h13_:=h13;try simp at h13_
         have F10:=A3 F8 h13 h13_;refine CF (by simp [F10] <;> omega) ?_;refine AW.skip ?_;refine hK215 _ _ _ ?_;exact JN (()) hF (by simp [F10]) (by simp [F10])
       ·replace hF:=AaG h9 hF;have h9_:=h9;try simp at h9_
        have F11:=A9 F5 h4 h5 h6 h6_ h5_ h7 h7_ (A4 h8 h8_ h9 h9_);try simp [F11]
        and_intros <;> first | exact GK g | apply r | omega | (simp [maxLen,F11] <;> omega)
        refine WK [(0,Lz v0),(3,Iz v2),(45,AV.bool false)] [] 0 (by simp [F11]) (by simp [F11]) ?_;refine CF (by simp [F11]) ?_;refine AW.skip ?_;refine hK215 _ _ _ ?_;exact JN (()) hF (by simp [F11]) (by simp [F11])
    ·rintro ⟨⟩ hF
     try dsimp only at hF
     unfold AaY.J2 at hF;refine RG [] [none,none,none] fun _ _ g r=>?_;try simp [F5]
     and_intros <;> first | exact GK g | apply r | omega | (simp [maxLen,F5] <;> omega)
     refine hK206 _ _ _ ?_;exact NX (k':=n1) (IntKind.wrap .i64 (v2+1)) hF (by simp [F5]) (by simp [F5])
   ·replace hF:=AaG h3 hF;have h3_:=h3;try simp at h3_
    have F12:=A3 F4 h3 h3_;refine CF (by simp [F12] <;> omega) ?_;refine AW.exit ?_;try simp
    refine hK169 _ _ _ ?_;refine SQ [] [none] fun _ _ g r=>?_;try simp [F12]
    and_intros <;> first | exact GK g | apply r | omega | (simp [maxLen,F12] <;> omega)
    refine WK [(2,AV.bool true)] [] 0 (by simp [F12]) (by simp [F12]) ?_;simp only [Option.some.injEq] at hF;subst hF;refine AW.ret (hQ _ _ _ ?_ (AaB ?_)).1
    ·simp [Try.f37,F12]
    ·simp [F12]
theorem AeR (k : Nat) (v0 : (List Int)) (v1 : Int) (v2 : Bool) (hF : Aag k v0 v1=some v2) :
 Aa0 Try.prog 108 [AV.lst false false (List.map (AV.int .i64) v0),AV.int .i64 v1] [] (AV.bool v2) []:=by
 unfold Aag at hF;refine EN Try.func108 ?_;intro c0 w0 Q h0 hQ
 refine WK [(0,Lz v0),(1,Iz v1)] [] 0 (by simp) (by simp) ?_;refine SQ [] [none] fun _ _ g r=>?_;try simp
 and_intros <;> first | exact GK g | apply r | omega | (simp [maxLen] <;> omega)
 refine WK [(0,Lz v0),(1,Iz v1)] [] 0 (by simp) (by simp) ?_;refine AW.seq fun K155 hK155=>?_;refine SQ [] [none] fun _ _ g r=>?_;try simp
 and_intros <;> first | exact GK g | apply r | omega | (simp [maxLen] <;> omega)
 refine WK [(0,Lz v0),(1,Iz v1),(5,Iz 0)] [] 0 (by simp) (by simp) ?_;refine AW.block ?_;refine AW.loopF (α:=Int) (fun n v3=>Aag.L1 k v0 v1 n v3=some v2) (fun v3=>[(0,Lz v0),(1,Iz v1),(5,Iz v3)]) (fun v3=>[]) 0 k (0) hF (by simp) (by simp) (by simp) ?_;rintro (_|n1) v3 hF K192 hK192
 ·try dsimp only at hF
  rw [Aag.L1] at hF; cases hF
 try dsimp only at hF
 rw [Aag.L1] at hF;refine AW.seq fun K194 hK194=>?_;refine SQ [] [none,none,none,none] fun _ _ g r=>?_;try simp
 and_intros <;> first | exact GK g | apply r | omega | (simp [maxLen] <;> omega)
 refine WK [(0,Lz v0),(1,Iz v1),(5,Iz v3),(9,AV.bool (decide (v3<(v0.length : Int))))] [] 0 (by simp) (by simp) ?_;by_cases h1 : v3<(v0.length : Int)
 ·replace hF:=AaF h1 hF;have h1_:=h1;try simp at h1_
  refine CT (by simp [h1,h1_] <;> omega) ?_;refine AW.skip ?_;refine hK194 _ _ _ ?_;refine AW.midF (α:=Unit) (fun _=>Aag.J2 k v3 (fun v3_=>Aag.L1 k v0 v1 n1 v3_)=some v2) (fun _=>[(0,Lz v0),(1,Iz v1),(5,Iz v3)]) (fun _=>[]) 0 (fun K201 hK201=>?_) ?_
  ·refine AW.block ?_;refine SQ [] [none,none,none,none,none,none,some (17,false),some (17,false),some (17,false),some (17,false),some (17,false),some (17,false),none,none,some (25,false),some (25,false),some (25,false),some (28,true),some (28,true),some (28,true),some (28,true),some (28,true),some (28,true),some (28,true),some (28,true),some (28,true),some (28,true),some (25,false),none] fun _ _ g r=>?_;obtain ⟨v4,h2,h3,h4,hF⟩:=Aab hF;have h4_:=Aaw h4;try simp at h4_
   have h3_:=h3;try simp at h3_
   by_cases h5 : v4<0
   ·replace hF:=AaF h5 hF;have h5_:=h5;try simp at h5_
    have F1:=A9 h1 h1_ h2 h3 h4 h4_ h3_ h5 h5_;try simp [F1]
    and_intros <;> first | exact GK g | apply r | omega | (simp [maxLen,F1] <;> omega)
    refine WK [(0,Lz v0),(1,Iz v1),(5,Iz v3),(40,AV.bool true)] [] 0 (by simp [F1]) (by simp [F1]) ?_;refine CT (by simp [F1]) ?_;refine SQ [] [none] fun _ _ g r=>?_;try simp [F1]
    and_intros <;> first | exact GK g | apply r | omega | (simp [maxLen,F1] <;> omega)
    refine WK [(4,AV.bool false)] [] 0 (by simp [F1]) (by simp [F1]) ?_;simp only [Option.some.injEq] at hF;subst hF;refine AW.ret (hQ _ _ _ ?_ (AaB ?_)).1
    ·simp [Try.f108,F1]
    ·simp [F1]
   ·replace hF:=AaG h5 hF;have h5_:=h5;try simp at h5_
    by_cases h6 : v1≤v4
    ·replace hF:=AaF h6 hF;have h6_:=h6;try simp at h6_
     have F2:=A9 h1 h1_ h2 h3 h4 h4_ h3_ h5 (A3 h5_ h6 h6_);try simp [F2]
     and_intros <;> first | exact GK g | apply r | omega | (simp [maxLen,F2] <;> omega)
     refine WK [(0,Lz v0),(1,Iz v1),(5,Iz v3),(40,AV.bool true)] [] 0 (by simp [F2]) (by simp [F2]) ?_;refine CT (by simp [F2]) ?_;refine SQ [] [none] fun _ _ g r=>?_;try simp [F2]
     and_intros <;> first | exact GK g | apply r | omega | (simp [maxLen,F2] <;> omega)
     refine WK [(4,AV.bool false)] [] 0 (by simp [F2]) (by simp [F2]) ?_;simp only [Option.some.injEq] at hF;subst hF;refine AW.ret (hQ _ _ _ ?_ (AaB ?_)).1
     ·simp [Try.f108,F2]
     ·simp [F2]
    ·replace hF:=AaG h6 hF;have h6_:=h6;try simp at h6_
     by_cases h7 : 0<v3
     ·replace hF:=AaF h7 hF;have h7_:=h7;try simp at h7_
      obtain ⟨v5,h8,h9,h10,hF⟩:=Aab hF;have h10_:=Aaw h10;try simp at h10_
      have h9_:=h9;try simp at h9_
      have F3:=A9 h1 h1_ h2 h3 h4 h4_ h3_ h5 (A9 h5_ h6 h6_ h7 h7_ h8 h9 h10 (A2 h10_ h9_));try simp [F3]
      and_intros <;> first | exact GK g | apply r | omega | (simp [maxLen,F3] <;> omega)
      refine WK [(0,Lz v0),(1,Iz v1),(5,Iz v3),(40,AV.bool (decide (v4≤v5)))] [] 0 (by simp [F3]) (by simp [F3]) ?_;by_cases h11 : v4≤v5
      ·replace hF:=AaF h11 hF;have h11_:=h11;try simp at h11_
       have F4:=A3 F3 h11 h11_;refine CT (by simp [F4] <;> omega) ?_;refine SQ [] [none] fun _ _ g r=>?_;try simp [F4]
       and_intros <;> first | exact GK g | apply r | omega | (simp [maxLen,F4] <;> omega)
       refine WK [(4,AV.bool false)] [] 0 (by simp [F4]) (by simp [F4]) ?_;simp only [Option.some.injEq] at hF;subst hF;refine AW.ret (hQ _ _ _ ?_ (AaB ?_)).1
       ·simp [Try.f108,F4]
       ·simp [F4]
      ·replace hF:=AaG h11 hF;have h11_:=h11;try simp at h11_
       have F5:=A3 F3 h11 h11_;refine CF (by simp [F5] <;> omega) ?_;refine AW.skip ?_;refine hK201 _ _ _ ?_;exact JN (()) hF (by simp [F5]) (by simp [F5])
     ·replace hF:=AaG h7 hF;have h7_:=h7;try simp at h7_
      have F6:=A9 h1 h1_ h2 h3 h4 h4_ h3_ h5 (A5 h5_ h6 h6_ h7 h7_);try simp [F6]
      and_intros <;> first | exact GK g | apply r | omega | (simp [maxLen,F6] <;> omega)
      refine WK [(0,Lz v0),(1,Iz v1),(5,Iz v3),(40,AV.bool false)] [] 0 (by simp [F6]) (by simp [F6]) ?_;refine CF (by simp [F6]) ?_;refine AW.skip ?_;refine hK201 _ _ _ ?_;exact JN (()) hF (by simp [F6]) (by simp [F6])
  ·rintro ⟨⟩ hF
   try dsimp only at hF
   unfold Aag.J2 at hF;refine RG [] [none,none,none] fun _ _ g r=>?_;try simp [h1,h1_]
   and_intros <;> first | exact GK g | apply r | omega | (simp [h1,h1_,maxLen] <;> omega)
   refine hK192 _ _ _ ?_;exact NX (k':=n1) (IntKind.wrap .i64 (v3+1)) hF (by simp [h1,h1_]) (by simp [h1,h1_])
 ·replace hF:=AaG h1 hF;have h1_:=h1;try simp at h1_
  refine CF (by simp [h1,h1_] <;> omega) ?_;refine AW.exit ?_;try simp
  refine hK155 _ _ _ ?_;refine SQ [] [none] fun _ _ g r=>?_;try simp [h1,h1_]
  and_intros <;> first | exact GK g | apply r | omega | (simp [h1,h1_,maxLen] <;> omega)
  refine WK [(4,AV.bool true)] [] 0 (by simp [h1,h1_]) (by simp [h1,h1_]) ?_;simp only [Option.some.injEq] at hF;subst hF;refine AW.ret (hQ _ _ _ ?_ (AaB ?_)).1
  ·simp [Try.f108,h1,h1_]
  ·simp [h1,h1_]
theorem Acd (k : Nat) (v0 : (List Int)) (v1 : Int) (v2 : Bool) (hF : AbK k v0 v1=some v2) :
 Aa0 Try.prog 110 [AV.lst false false (List.map (AV.int .i64) v0),AV.int .i64 v1] [] (AV.bool v2) []:=by
 unfold AbK at hF;refine EN Try.func110 ?_;intro c0 w0 Q h0 hQ
 refine WK [(0,Lz v0),(1,Iz v1)] [] 0 (by simp) (by simp) ?_;refine SQ [] [none] fun _ _ g r=>?_;try simp
 and_intros <;> first | exact GK g | apply r | omega | (simp [maxLen] <;> omega)
 refine WK [(0,Lz v0),(1,Iz v1)] [] 0 (by simp) (by simp) ?_;refine AW.seq fun K119 hK119=>?_;refine SQ [] [none] fun _ _ g r=>?_;try simp
 and_intros <;> first | exact GK g | apply r | omega | (simp [maxLen] <;> omega)
 refine WK [(0,Lz v0),(1,Iz v1),(5,Iz 0)] [] 0 (by simp) (by simp) ?_;refine AW.block ?_;refine AW.loopF (α:=Int) (fun n v3=>AbK.L1 k v0 v1 n v3=some v2) (fun v3=>[(0,Lz v0),(1,Iz v1),(5,Iz v3)]) (fun v3=>[]) 0 k (0) hF (by simp) (by simp) (by simp) ?_;rintro (_|n1) v3 hF K148 hK148
 ·try dsimp only at hF
  rw [AbK.L1] at hF; cases hF
 try dsimp only at hF
 rw [AbK.L1] at hF;refine AW.seq fun K150 hK150=>?_;refine SQ [] [none,none,none,none] fun _ _ g r=>?_;try simp
 and_intros <;> first | exact GK g | apply r | omega | (simp [maxLen] <;> omega)
 refine WK [(0,Lz v0),(1,Iz v1),(5,Iz v3),(9,AV.bool (decide (v3<(v0.length : Int))))] [] 0 (by simp) (by simp) ?_;by_cases h1 : v3<(v0.length : Int)
 ·replace hF:=AaF h1 hF;have h1_:=h1;try simp at h1_
  refine CT (by simp [h1,h1_] <;> omega) ?_;refine AW.skip ?_;refine hK150 _ _ _ ?_;refine AW.seq fun K154 hK154=>?_;refine AW.block ?_;refine SQ [] [none,none,none,none,none,none] fun _ _ g r=>?_;obtain ⟨v4,h2,h3,h4,hF⟩:=Aab hF;have h4_:=Aaw h4;try simp at h4_
  have h3_:=h3;try simp at h3_
  have F1:=A7 h1 h1_ h2 h3 h4 h4_ h3_;try simp [F1]
  and_intros <;> first | exact GK g | apply r | omega | (simp [maxLen,F1] <;> omega)
  refine WK [(0,Lz v0),(1,Iz v1),(5,Iz v3),(17,AV.bool (v4==v1))] [] 0 (by simp [F1]) (by simp [F1]) ?_;by_cases h5 : v4=v1
  ·replace hF:=AaF h5 hF;have h5q : v4=v1:=h5;have h5_:=AbB h5q;have h5__:=AbA h5q;have F2:=A3 F1 h5_ h5__;refine CT (by simp [F2] <;> omega) ?_;refine SQ [] [none] fun _ _ g r=>?_;try simp [F2]
   and_intros <;> first | exact GK g | apply r | omega | (simp [maxLen,F2] <;> omega)
   refine WK [(4,AV.bool true)] [] 0 (by simp [F2]) (by simp [F2]) ?_;simp only [Option.some.injEq] at hF;subst hF;refine AW.ret (hQ _ _ _ ?_ (AaB ?_)).1
   ·simp [Try.f110,F2]
   ·simp [F2]
  ·replace hF:=AaG h5 hF;have h5_:=Aa7 h5;have h5__:=Aa9 h5;have F3:=A4 F1 h5 h5_ h5__;refine CF (by simp [F3] <;> omega) ?_;refine AW.skip ?_;refine hK154 _ _ _ ?_;refine RG [] [none,none,none] fun _ _ g r=>?_;try simp [F3]
   and_intros <;> first | exact GK g | apply r | omega | (simp [maxLen,F3] <;> omega)
   refine hK148 _ _ _ ?_;exact NX (k':=n1) (IntKind.wrap .i64 (v3+1)) hF (by simp [F3]) (by simp [F3])
 ·replace hF:=AaG h1 hF;have h1_:=h1;try simp at h1_
  refine CF (by simp [h1,h1_] <;> omega) ?_;refine AW.exit ?_;try simp
  refine hK119 _ _ _ ?_;refine SQ [] [none] fun _ _ g r=>?_;try simp [h1,h1_]
  and_intros <;> first | exact GK g | apply r | omega | (simp [h1,h1_,maxLen] <;> omega)
  refine WK [(4,AV.bool false)] [] 0 (by simp [h1,h1_]) (by simp [h1,h1_]) ?_;simp only [Option.some.injEq] at hF;subst hF;refine AW.ret (hQ _ _ _ ?_ (AaB ?_)).1
  ·simp [Try.f110,h1,h1_]
  ·simp [h1,h1_]
theorem Aeo (k : Nat) (v0 : Int) (v1 : Int) (v2 : Int) (v3 : Int) (v4 : Int) (v5 : Int) (v6 : Bool) (hF : Acx k v0 v1 v2 v3 v4 v5=some v6) :
 Aa0 Try.prog 109 [AV.agg [AV.int .i64 v0,AV.int .i64 v1,AV.int .i64 v2],AV.agg [AV.int .i64 v3,AV.int .i64 v4,AV.int .i64 v5]] [] (AV.bool v6) []:=by
 unfold Acx at hF;refine EN Try.func109 ?_;intro c0 w0 Q h0 hQ
 refine WK [(0,AV.agg [Iz v0,Iz v1,Iz v2]),(1,AV.agg [Iz v3,Iz v4,Iz v5])] [] 0 (by simp) (by simp) ?_;refine SQ [] [none,none,none] fun _ _ g r=>?_;try simp
 and_intros <;> first | exact GK g | apply r | omega | (simp [maxLen] <;> omega)
 refine WK [(2,AV.ptr 0 0),(3,AV.ptr 1 0)] [(0,.cells [Iz v0,Iz v1,Iz v2]),(1,.cells [Iz v3,Iz v4,Iz v5])] 2 (by simp) (by simp) ?_;refine SQ [] [none,none,none,none,none,none,some (10,false),some (10,false),some (10,false),some (10,false),some (10,false),some (10,false),some (16,true),some (16,true),some (16,true),some (16,true),some (16,true),some (10,false),none,none] fun _ _ g r=>?_;by_cases h1 : v0<v3
 ·replace hF:=AaF h1 hF;have h1_:=h1;try simp at h1_
  try simp [h1,h1_]
  and_intros <;> first | exact GK g | apply r | omega | (simp [h1,h1_,maxLen] <;> omega)
  refine WK [(4,AV.bool true)] [] 2 (by simp [h1,h1_]) (by simp [h1,h1_]) ?_;simp only [Option.some.injEq] at hF;subst hF;refine AW.ret (hQ _ _ _ ?_ (AaB ?_)).1
  ·simp [Try.f109,h1,h1_]
  ·simp [h1,h1_]
 ·replace hF:=AaG h1 hF;have h1_:=h1;try simp at h1_
  by_cases h2 : v0=v3
  ·replace hF:=AaF h2 hF;have h2q : v0=v3:=h2;have h2_:=AbB h2q;have h2__:=AbA h2q;have F1:=A4 h1 h1_ h2_ h2__;try simp [F1]
   and_intros <;> first | exact GK g | apply r | omega | (simp [maxLen,F1] <;> omega)
   refine WK [(4,AV.bool (decide (v1<v4)))] [] 2 (by simp [F1]) (by simp [F1]) ?_;simp only [Option.some.injEq] at hF;subst hF;refine AW.ret (hQ _ _ _ ?_ (AaB ?_)).1
   ·simp [Try.f109,F1]
   ·simp [F1]
  ·replace hF:=AaG h2 hF;have h2_:=Aa7 h2;have h2__:=Aa9 h2;have F2:=A5 h1 h1_ h2 h2_ h2__;try simp [F2]
   and_intros <;> first | exact GK g | apply r | omega | (simp [maxLen,F2] <;> omega)
   refine WK [(4,AV.bool false)] [] 2 (by simp [F2]) (by simp [F2]) ?_;simp only [Option.some.injEq] at hF;subst hF;refine AW.ret (hQ _ _ _ ?_ (AaB ?_)).1
   ·simp [Try.f109,F2]
   ·simp [F2]
end Go.TF
