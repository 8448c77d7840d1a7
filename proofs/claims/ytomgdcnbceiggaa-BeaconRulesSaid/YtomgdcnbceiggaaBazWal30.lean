import Derived.Test.YtomgdcnbceiggaaBazWal27
set_option linter.unusedVariables false
set_option linter.unusedSimpArgs false
set_option maxRecDepth 100000
set_option maxHeartbeats 4000000
namespace Go.TF
open Go Go.Abs Go.Proofs Go.Proofs.YtomgdcnbceiggaaBaT
theorem AfH (k : Nat) (v0 : Int) (v1 : Bool) (hF : Acr k v0=some v1) :
 AbA Try.prog 66 [AV.int .i64 v0] [] (AV.bool v1) []:=by
 unfold Acr at hF;refine EN Try.func66 ?_;intro c0 w0 Q h0 hQ
 refine WK [(0,Iz v0)] [] 0 (by simp) (by simp) ?_;refine SW trivial [] [none] [] [] [] [] 0 ?_;refine SR [] [none,none,none,some (5,true),some (5,true),none,none] fun _ _ g r=>?_;by_cases h1 : 0≤v0
 ·replace hF:=AaN h1 hF;have h1_:=h1;try simp at h1_
  refine TL (A2 h1 h1_) g r [0] [(2,AV.bool (decide (v0<64)))] [] [] 0 ?_;simp only [Option.some.injEq] at hF;subst hF;refine AW.ret (hQ _ _ _ ?_ (AaE ?_)).1
  ·simp [Try.f66,h1,h1_]
  ·simp [h1,h1_]
 ·replace hF:=AaO h1 hF;have h1_:=h1;try simp at h1_
  refine TL (A2 h1 h1_) g r [0] [(2,AV.bool false)] [] [] 0 ?_;simp only [Option.some.injEq] at hF;subst hF;refine AW.ret (hQ _ _ _ ?_ (AaE ?_)).1
  ·simp [Try.f66,h1,h1_]
  ·simp [h1,h1_]
theorem Ahz (k : Nat) (v0 : (List Int)) (v1 : (List Bool)) (hF : Aa8 k v0=some v1) :
 AbA Try.prog 67 [AV.lst false false (List.map (AV.int .i64) v0)] [] (AV.agg (List.map AV.bool v1)) []:=by
 unfold Aa8 at hF;refine EN Try.func67 ?_;intro c0 w0 Q h0 hQ
 refine WK [(0,Lz v0)] [] 0 (by simp) (by simp) ?_;refine SW trivial [] [none] [] [(2,AV.ptr 0 0)] [] [(0,.cells (List.map AV.bool (List.replicate 64 false)))] 1 ?_;refine SW trivial [] [none] [] [(3,AV.ptr 1 0)] [] [(1,.cells (List.map AV.bool (List.replicate 64 false)))] 2 ?_;refine AW.seq fun K133 hK133=>?_;refine SW trivial [] [none,none,none] [0] [(6,Lz v0),(7,Iz (v0.length : Int)),(8,Iz 0)] [] [] 2 ?_;refine AW.block ?_;refine AW.loopF (α:=(Int×(List Bool))) (fun n (v2,v3)=>Aa8.L1 k v0 n v2 v3=some v1) (fun (v2,v3)=>[(2,AV.ptr 0 0),(3,AV.ptr 1 0),(6,Lz v0),(7,Iz (v0.length : Int)),(8,Iz v2)]) (fun (v2,v3)=>[(0,.cells (List.map AV.bool (List.replicate 64 false))),(1,.cells (List.map AV.bool v3))]) 2 k ((0,(List.replicate 64 false))) hF (by simp) (by simp) (by simp) ?_;rintro (_|n1) ⟨v2,v3⟩ hF K165 hK165
 ·try dsimp only at hF
  rw [Aa8.L1] at hF; cases hF
 try dsimp only at hF
 rw [Aa8.L1] at hF;refine SW trivial [] [none] [] [(9,AV.bool (decide (v2<(v0.length : Int))))] [] [] 2 ?_;refine AW.seq fun K167 hK167=>?_;by_cases h1 : v2<(v0.length : Int)
 ·replace hF:=AaN h1 hF;have h1_:=h1;try simp at h1_
  refine CT (by simp [h1,h1_] <;> omega) ?_;refine AW.skip ?_;refine hK167 _ _ _ ?_;refine AW.midF (α:=(List Bool)) (fun v4=>Aa8.J2 k v2 (fun v2_ v3_=>Aa8.L1 k v0 n1 v2_ v3_) v4=some v1) (fun v4=>[(2,AV.ptr 0 0),(3,AV.ptr 1 0),(6,Lz v0),(7,Iz (v0.length : Int)),(8,Iz v2)]) (fun v4=>[(0,.cells (List.map AV.bool (List.replicate 64 false))),(1,.cells (List.map AV.bool v4))]) 2 (fun K172 hK172=>?_) ?_
  ·refine AW.block ?_;refine SR [] [none,none,none] fun _ _ g r=>?_;obtain ⟨v5,h2,h3,h4,hF⟩:=AaM hF;have h4_:=Aaf h4;try simp at h4_
   have h3_:=h3;try simp at h3_
   have F1:=A7 h1 h1_ h2 h3 h4 h4_ h3_;refine TL F1 g r [] [(5,Iz v5)] [] [] 2 ?_;obtain ⟨v6,h5,hF⟩:=AaH hF;refine CL F1 [] [none,none] (AfH k _ _ h5) [] [(13,AV.bool v6)] [] [] 2 ?_;by_cases h6 : v6=true
   ·replace hF:=AaN h6 hF;have h6_:=h6;try simp at h6_
    have F2:=A3 F1 h6 h6_;refine CT (by simp [F2] <;> omega) ?_;refine RG [] [none,none,none] fun _ _ g r=>?_;obtain ⟨⟨h7,h9,h8⟩,hF⟩:=AaJ hF;have h8_:=Aal h8;have F3:=A5 F2 h7 h8 h9 h8_;try simp [F3]
    and_intros <;> first | exact GK g | apply r | omega | (simp [maxLen,F3] <;> omega)
    refine hK172 _ _ _ ?_;exact JN (v3.set (v5).toNat true) hF (by simp [F3]) (by simp [F3])
   ·replace hF:=AaO h6 hF;have h6_:=h6;try simp at h6_
    have F4:=A3 F1 h6 h6_;refine CF (by simp [F4] <;> omega) ?_;refine AW.skip ?_;refine hK172 _ _ _ ?_;exact JN (v3) hF (by simp [F4]) (by simp [F4])
  ·rintro v4 hF
   try dsimp only at hF
   unfold Aa8.J2 at hF;refine RG [] [none,none] fun _ _ g r=>?_;try simp [h1,h1_]
   and_intros <;> first | exact GK g | apply r | omega | (simp [h1,h1_,maxLen] <;> omega)
   refine hK165 _ _ _ ?_;exact NX (k':=n1) ((IntKind.wrap .i64 (v2+1),v4)) hF (by simp [h1,h1_]) (by simp [h1,h1_])
 ·replace hF:=AaO h1 hF;have h1_:=h1;try simp at h1_
  refine CF (by simp [h1,h1_] <;> omega) ?_;refine AW.exit ?_;try simp
  refine hK133 _ _ _ ?_;refine SR [] [none,none] fun _ _ g r=>?_;obtain ⟨h10,hF⟩:=AaJ hF;have h10_:=AdR h10 (by decide);obtain ⟨h11,hF⟩:=AaJ hF;have F5:=A5 h1 h1_ h10 h10_ h11;refine TL F5 g r [3,6,7,8] [] [0,1] [(0,.cells (List.map AV.bool v3))] 2 ?_;obtain ⟨h12,hF⟩:=AaJ hF;have h12_:=AdR h12 (by decide);simp only [Option.some.injEq] at hF;subst hF;refine AW.ret (hQ _ _ _ ?_ (AaE ?_)).1
  ·have F6:=A3 F5 h12 h12_;simp [Try.f67,F6]
  ·have F7:=A3 F5 h12 h12_;simp [F7]
theorem Af1 (k : Nat) (v0 : (List Int)) (v1 : Bool) (hF : Aao k v0=some v1) :
 AbA Try.prog 35 [AV.lst false false (List.map (AV.int .i64) v0)] [] (AV.bool v1) []:=by
 unfold Aao at hF;refine EN Try.func35 ?_;intro c0 w0 Q h0 hQ
 refine WK [(0,Lz v0)] [] 0 (by simp) (by simp) ?_;refine SW trivial [] [none] [] [] [] [] 0 ?_;refine AW.seq fun K143 hK143=>?_;refine SW trivial [] [none,none,none] [] [(5,Lz v0),(6,Iz (v0.length : Int)),(7,Iz 0)] [] [] 0 ?_;refine AW.block ?_;refine AW.loopF (α:=Int) (fun n v2=>Aao.L1 k v0 n v2=some v1) (fun v2=>[(0,Lz v0),(5,Lz v0),(6,Iz (v0.length : Int)),(7,Iz v2)]) (fun v2=>[]) 0 k (0) hF (by simp) (by simp) (by simp) ?_;rintro (_|n1) v2 hF K177 hK177
 ·try dsimp only at hF
  rw [Aao.L1] at hF; cases hF
 try dsimp only at hF
 rw [Aao.L1] at hF;refine SW trivial [] [none] [] [(8,AV.bool (decide (v2<(v0.length : Int))))] [] [] 0 ?_;refine AW.seq fun K179 hK179=>?_;by_cases h1 : v2<(v0.length : Int)
 ·replace hF:=AaN h1 hF;have h1_:=h1;try simp at h1_
  refine CT (by simp [h1,h1_] <;> omega) ?_;refine AW.skip ?_;refine hK179 _ _ _ ?_;refine AW.midF (α:=Unit) (fun _=>Aao.J2 k v2 (fun v2_=>Aao.L1 k v0 n1 v2_)=some v1) (fun _=>[(0,Lz v0),(5,Lz v0),(6,Iz (v0.length : Int)),(7,Iz v2)]) (fun _=>[]) 0 (fun K185 hK185=>?_) ?_
  ·refine AW.block ?_;refine SR [] [none,none,none,none,none] fun _ _ g r=>?_;obtain ⟨v3,h2,h3,h4,hF⟩:=AaM hF;have h4_:=Aaf h4;try simp at h4_
   have h3_:=h3;try simp at h3_
   have F1:=A7 h1 h1_ h2 h3 h4 h4_ h3_;refine TL F1 g r [] [(3,Iz v2),(4,Iz v3)] [] [] 0 ?_;refine SR [] [none,none,none,none,some (15,false),some (15,false),some (15,false),some (18,true),some (18,true),some (18,true),some (18,true),some (18,true),some (18,true),some (18,true),some (15,false),none] fun _ _ g r=>?_;try simp [F1]
   and_intros
   try any_goals first | omega | (simp [maxLen,F1] <;> omega)
   obtain ⟨v4,h5,hF⟩:=AaH hF;refine AC (AfH k _ _ h5) (.cons (.same (by simp [F1])) .nil) ?_;by_cases h6 : (!v4)=true
   ·replace hF:=AaN h6 hF;have h6_:=h6;try simp at h6_
    have F2:=A3 F1 h6 h6_;refine TL F2 g r [3,4] [(27,AV.bool true)] [] [] 0 ?_;refine CT (by simp [F2]) ?_;refine SW F2 [] [none] [0,5,6,7,27] [(2,AV.bool false)] [] [] 0 ?_;simp only [Option.some.injEq] at hF;subst hF;refine AW.ret (hQ _ _ _ ?_ (AaE ?_)).1
    ·simp [Try.f35,F2]
    ·simp [F2]
   ·replace hF:=AaO h6 hF;have h6_:=h6;try simp at h6_
    by_cases h7 : 0<v2
    ·replace hF:=AaN h7 hF;have h7_:=h7;try simp at h7_
     obtain ⟨v5,h8,h9,h10,hF⟩:=AaM hF;have h10_:=Aaf h10;try simp at h10_
     have h9_:=h9;try simp at h9_
     have F3:=A9 F1 h6 h6_ h7 h7_ h8 h9 h10 (A2 h10_ h9_);refine TL F3 g r [3,4] [(27,AV.bool (decide (v3≤v5)))] [] [] 0 ?_;by_cases h11 : v3≤v5
     ·replace hF:=AaN h11 hF;have h11_:=h11;try simp at h11_
      have F4:=A3 F3 h11 h11_;refine CT (by simp [F4] <;> omega) ?_;refine SW F4 [] [none] [0,5,6,7,27] [(2,AV.bool false)] [] [] 0 ?_;simp only [Option.some.injEq] at hF;subst hF;refine AW.ret (hQ _ _ _ ?_ (AaE ?_)).1
      ·simp [Try.f35,F4]
      ·simp [F4]
     ·replace hF:=AaO h11 hF;have h11_:=h11;try simp at h11_
      have F5:=A3 F3 h11 h11_;refine CF (by simp [F5] <;> omega) ?_;refine AW.skip ?_;refine hK185 _ _ _ ?_;exact JN (()) hF (by simp [F5]) (by simp [F5])
    ·replace hF:=AaO h7 hF;have h7_:=h7;try simp at h7_
     have F6:=A5 F1 h6 h6_ h7 h7_;refine TL F6 g r [3,4] [(27,AV.bool false)] [] [] 0 ?_;refine CF (by simp [F6]) ?_;refine AW.skip ?_;refine hK185 _ _ _ ?_;exact JN (()) hF (by simp [F6]) (by simp [F6])
  ·rintro ⟨⟩ hF
   try dsimp only at hF
   unfold Aao.J2 at hF;refine RG [] [none,none] fun _ _ g r=>?_;try simp [h1,h1_]
   and_intros <;> first | exact GK g | apply r | omega | (simp [h1,h1_,maxLen] <;> omega)
   refine hK177 _ _ _ ?_;exact NX (k':=n1) (IntKind.wrap .i64 (v2+1)) hF (by simp [h1,h1_]) (by simp [h1,h1_])
 ·replace hF:=AaO h1 hF;have h1_:=h1;try simp at h1_
  refine CF (by simp [h1,h1_] <;> omega) ?_;refine AW.exit ?_;try simp
  refine hK143 _ _ _ ?_;refine SR [] [none,none,none,none,none] fun _ _ g r=>?_;try simp [h1,h1_]
  and_intros
  try any_goals first | omega | (simp [h1,h1_,maxLen] <;> omega)
  obtain ⟨v6,h12,hF⟩:=AaH hF;refine AC (Ahz k _ _ h12) (.cons (.same (by simp [h1,h1_])) .nil) ?_;obtain ⟨h13,hF⟩:=AaJ hF;have F7:=A3 h1 h1_ h13;refine TL F7 g r [0,5,6,7] [(2,AV.bool (v6 !=(List.replicate 64 false)))] [] [] 0 ?_;simp only [Option.some.injEq] at hF;subst hF;refine AW.ret (hQ _ _ _ ?_ (AaE ?_)).1
  ·simp [Try.f35,F7]
  ·simp [F7]
theorem AcV (k : Nat) (v0 : Int) (v1 : Int) (v2 : Int) (v3 : Bool) (hF : AcC k v0 v1 v2=some v3) :
 AbA Try.prog 70 [AV.int .i64 v0,AV.int .i64 v1,AV.int .i64 v2] [] (AV.bool v3) []:=by
 unfold AcC at hF;refine EN Try.func70 ?_;intro c0 w0 Q h0 hQ
 refine WK [(0,Iz v0),(1,Iz v1),(2,Iz v2)] [] 0 (by simp) (by simp) ?_;refine SW trivial [] [none] [] [] [] [] 0 ?_;refine SR [] [none,none,none,none,some (10,true),some (10,true),some (10,true),none,none] fun _ _ g r=>?_;by_cases h1 : v1≤v0
 ·replace hF:=AaN h1 hF;have h1_:=h1;try simp at h1_
  refine TL (A2 h1 h1_) g r [0,1,2] [(6,AV.bool (decide (v0≤v2)))] [] [] 0 ?_;simp only [Option.some.injEq] at hF;subst hF;refine AW.ret (hQ _ _ _ ?_ (AaE ?_)).1
  ·simp [Try.f70,h1,h1_]
  ·simp [h1,h1_]
 ·replace hF:=AaO h1 hF;have h1_:=h1;try simp at h1_
  refine TL (A2 h1 h1_) g r [0,1,2] [(6,AV.bool false)] [] [] 0 ?_;simp only [Option.some.injEq] at hF;subst hF;refine AW.ret (hQ _ _ _ ?_ (AaE ?_)).1
  ·simp [Try.f70,h1,h1_]
  ·simp [h1,h1_]
theorem AeJ (k : Nat) (v0 : (List Int)) (v1 : Int) (v2 : Int) (v3 : Bool) (hF : Aak k v0 v1 v2=some v3) :
 AbA Try.prog 69 [AV.lst false false (List.map (AV.int .i64) v0),AV.int .i64 v1,AV.int .i64 v2] [] (AV.bool v3) []:=by
 unfold Aak at hF;refine EN Try.func69 ?_;intro c0 w0 Q h0 hQ
 refine WK [(0,Lz v0),(1,Iz v1),(2,Iz v2)] [] 0 (by simp) (by simp) ?_;refine SW trivial [] [none] [] [] [] [] 0 ?_;refine AW.seq fun K167 hK167=>?_;refine SW trivial [] [none,none,none] [] [(9,Lz v0),(10,Iz (v0.length : Int)),(11,Iz 0)] [] [] 0 ?_;refine AW.block ?_;refine AW.loopF (α:=Int) (fun n v4=>Aak.L1 k v0 v1 v2 n v4=some v3) (fun v4=>[(0,Lz v0),(1,Iz v1),(2,Iz v2),(9,Lz v0),(10,Iz (v0.length : Int)),(11,Iz v4)]) (fun v4=>[]) 0 k (0) hF (by simp) (by simp) (by simp) ?_;rintro (_|n1) v4 hF K207 hK207
 ·try dsimp only at hF
  rw [Aak.L1] at hF; cases hF
 try dsimp only at hF
 rw [Aak.L1] at hF;refine SW trivial [] [none] [] [(12,AV.bool (decide (v4<(v0.length : Int))))] [] [] 0 ?_;refine AW.seq fun K209 hK209=>?_;by_cases h1 : v4<(v0.length : Int)
 ·replace hF:=AaN h1 hF;have h1_:=h1;try simp at h1_
  refine CT (by simp [h1,h1_] <;> omega) ?_;refine AW.skip ?_;refine hK209 _ _ _ ?_;refine AW.midF (α:=Unit) (fun _=>Aak.J2 k v4 (fun v4_=>Aak.L1 k v0 v1 v2 n1 v4_)=some v3) (fun _=>[(0,Lz v0),(1,Iz v1),(2,Iz v2),(9,Lz v0),(10,Iz (v0.length : Int)),(11,Iz v4)]) (fun _=>[]) 0 (fun K216 hK216=>?_) ?_
  ·refine AW.block ?_;refine SR [] [none,none,none,none,none] fun _ _ g r=>?_;obtain ⟨v5,h2,h3,h4,hF⟩:=AaM hF;have h4_:=Aaf h4;try simp at h4_
   have h3_:=h3;try simp at h3_
   have F1:=A7 h1 h1_ h2 h3 h4 h4_ h3_;refine TL F1 g r [] [(7,Iz v4),(8,Iz v5)] [] [] 0 ?_;refine SR [] [none,none,none,none,some (19,false),some (19,false),some (19,false),none,none,some (24,false),some (24,false),some (24,false),some (27,true),some (27,true),some (27,true),some (27,true),some (27,true),some (27,true),some (27,true),some (24,false),none] fun _ _ g r=>?_;by_cases h5 : v5<v1
   ·replace hF:=AaN h5 hF;have h5_:=h5;try simp at h5_
    have F2:=A3 F1 h5 h5_;refine TL F2 g r [7,8] [(36,AV.bool true)] [] [] 0 ?_;refine CT (by simp [F2]) ?_;refine SW F2 [] [none] [0,1,2,9,10,11,36] [(6,AV.bool false)] [] [] 0 ?_;simp only [Option.some.injEq] at hF;subst hF;refine AW.ret (hQ _ _ _ ?_ (AaE ?_)).1
    ·simp [Try.f69,F2]
    ·simp [F2]
   ·replace hF:=AaO h5 hF;have h5_:=h5;try simp at h5_
    by_cases h6 : v2<v5
    ·replace hF:=AaN h6 hF;have h6_:=h6;try simp at h6_
     have F3:=A5 F1 h5 h5_ h6 h6_;refine TL F3 g r [7,8] [(36,AV.bool true)] [] [] 0 ?_;refine CT (by simp [F3]) ?_;refine SW F3 [] [none] [0,1,2,9,10,11,36] [(6,AV.bool false)] [] [] 0 ?_;simp only [Option.some.injEq] at hF;subst hF;refine AW.ret (hQ _ _ _ ?_ (AaE ?_)).1
     ·simp [Try.f69,F3]
     ·simp [F3]
    ·replace hF:=AaO h6 hF;have h6_:=h6;try simp at h6_
     by_cases h7 : 0<v4
     ·replace hF:=AaN h7 hF;have h7_:=h7;try simp at h7_
      obtain ⟨v6,h8,h9,h10,hF⟩:=AaM hF;have h10_:=Aaf h10;try simp at h10_
      have h9_:=h9;try simp at h9_
      have F4:=A9 F1 h5 h5_ h6 h6_ h7 h7_ h8 (A4 h9 h10 h10_ h9_);refine TL F4 g r [7,8] [(36,AV.bool (decide (v5≤v6)))] [] [] 0 ?_;by_cases h11 : v5≤v6
      ·replace hF:=AaN h11 hF;have h11_:=h11;try simp at h11_
       have F5:=A3 F4 h11 h11_;refine CT (by simp [F5] <;> omega) ?_;refine SW F5 [] [none] [0,1,2,9,10,11,36] [(6,AV.bool false)] [] [] 0 ?_;simp only [Option.some.injEq] at hF;subst hF;refine AW.ret (hQ _ _ _ ?_ (AaE ?_)).1
       ·simp [Try.f69,F5]
       ·simp [F5]
      ·replace hF:=AaO h11 hF;have h11_:=h11;try simp at h11_
       have F6:=A3 F4 h11 h11_;refine CF (by simp [F6] <;> omega) ?_;refine AW.skip ?_;refine hK216 _ _ _ ?_;exact JN (()) hF (by simp [F6]) (by simp [F6])
     ·replace hF:=AaO h7 hF;have h7_:=h7;try simp at h7_
      have F7:=A7 F1 h5 h5_ h6 h6_ h7 h7_;refine TL F7 g r [7,8] [(36,AV.bool false)] [] [] 0 ?_;refine CF (by simp [F7]) ?_;refine AW.skip ?_;refine hK216 _ _ _ ?_;exact JN (()) hF (by simp [F7]) (by simp [F7])
  ·rintro ⟨⟩ hF
   try dsimp only at hF
   unfold Aak.J2 at hF;refine RG [] [none,none] fun _ _ g r=>?_;try simp [h1,h1_]
   and_intros <;> first | exact GK g | apply r | omega | (simp [h1,h1_,maxLen] <;> omega)
   refine hK207 _ _ _ ?_;exact NX (k':=n1) (IntKind.wrap .i64 (v4+1)) hF (by simp [h1,h1_]) (by simp [h1,h1_])
 ·replace hF:=AaO h1 hF;have h1_:=h1;try simp at h1_
  refine CF (by simp [h1,h1_] <;> omega) ?_;refine AW.exit ?_;try simp
  refine hK167 _ _ _ ?_;refine SW (A2 h1 h1_) [] [none] [0,1,2,9,10,11] [(6,AV.bool true)] [] [] 0 ?_;simp only [Option.some.injEq] at hF;subst hF;refine AW.ret (hQ _ _ _ ?_ (AaE ?_)).1
  ·simp [Try.f69,h1,h1_]
  ·simp [h1,h1_]
theorem Adb (k : Nat) (v0 : (List Int)) (v1 : Int) (v2 : Int) (hF : Aa0 k v0 v1=some v2) :
 AbA Try.prog 128 [AV.lst false false (List.map (AV.int .i64) v0),AV.int .i64 v1] [] (AV.int .i64 v2) []:=by
 unfold Aa0 at hF;refine EN Try.func128 ?_;intro c0 w0 Q h0 hQ
 refine WK [(0,Lz v0),(1,Iz v1)] [] 0 (by simp) (by simp) ?_;refine SW trivial [] [none] [] [] [] [] 0 ?_;refine AW.seq fun K131 hK131=>?_;refine SW trivial [] [none,none,none] [] [(7,Iz (v0.length : Int)),(8,Iz 0)] [] [] 0 ?_;refine AW.block ?_;refine AW.loopF (α:=Int) (fun n v3=>Aa0.L1 k v0 v1 n v3=some v2) (fun v3=>[(0,Lz v0),(1,Iz v1),(7,Iz (v0.length : Int)),(8,Iz v3)]) (fun v3=>[]) 0 k (0) hF (by simp) (by simp) (by simp) ?_;rintro (_|n1) v3 hF K163 hK163
 ·try dsimp only at hF
  rw [Aa0.L1] at hF; cases hF
 try dsimp only at hF
 rw [Aa0.L1] at hF;refine SW trivial [] [none] [] [(9,AV.bool (decide (v3<(v0.length : Int))))] [] [] 0 ?_;refine AW.seq fun K165 hK165=>?_;by_cases h1 : v3<(v0.length : Int)
 ·replace hF:=AaN h1 hF;have h1_:=h1;try simp at h1_
  refine CT (by simp [h1,h1_] <;> omega) ?_;refine AW.skip ?_;refine hK165 _ _ _ ?_;refine AW.seq fun K169 hK169=>?_;refine AW.block ?_;refine SW (A2 h1 h1_) [] [none,none] [] [(5,Iz v3)] [] [] 0 ?_;refine SR [] [none,none,none,none,none,none] fun _ _ g r=>?_;obtain ⟨v4,h2,h3,h4,hF⟩:=AaM hF;have h4_:=Aaf h4;try simp at h4_
  have h3_:=h3;try simp at h3_
  have F1:=A7 h1 h1_ h2 h3 h4 h4_ h3_;refine TL F1 g r [] [(16,AV.bool (v1==v4))] [] [] 0 ?_;by_cases h5 : v1=v4
  ·replace hF:=AaN h5 hF;have h5q : v1=v4:=h5;have h5_:=AbY h5q;have h5__:=AbX h5q;have F2:=A3 F1 h5_ h5__;refine CT (by simp [F2] <;> omega) ?_;refine SW F2 [] [none,none] [0,1,5,7,8,16] [(4,Iz v3)] [] [] 0 ?_;simp only [Option.some.injEq] at hF;subst hF;refine AW.ret (hQ _ _ _ ?_ (AaE ?_)).1
   ·simp [Try.f128,F2]
   ·simp [F2]
  ·replace hF:=AaO h5 hF;have h5_:=AbR h5;have h5__:=AbW h5;have F3:=A4 F1 h5 h5_ h5__;refine CF (by simp [F3] <;> omega) ?_;refine AW.skip ?_;refine hK169 _ _ _ ?_;refine RG [] [none,none] fun _ _ g r=>?_;try simp [F3]
   and_intros <;> first | exact GK g | apply r | omega | (simp [maxLen,F3] <;> omega)
   refine hK163 _ _ _ ?_;exact NX (k':=n1) (IntKind.wrap .i64 (v3+1)) hF (by simp [F3]) (by simp [F3])
 ·replace hF:=AaO h1 hF;have h1_:=h1;try simp at h1_
  refine CF (by simp [h1,h1_] <;> omega) ?_;refine AW.exit ?_;try simp
  refine hK131 _ _ _ ?_;refine SW (A2 h1 h1_) [] [none] [0,1,7,8] [(4,Iz (-1))] [] [] 0 ?_;simp only [Option.some.injEq] at hF;subst hF;refine AW.ret (hQ _ _ _ ?_ (AaE ?_)).1
  ·simp [Try.f128,h1,h1_]
  ·simp [h1,h1_]
theorem Ab6 (k : Nat) (v0 : (List Int)) (v1 : Int) (v2 : Bool) (hF : Abb k v0 v1=some v2) :
 AbA Try.prog 121 [AV.lst false false (List.map (AV.int .i64) v0),AV.int .i64 v1] [] (AV.bool v2) []:=by
 unfold Abb at hF;refine EN Try.func121 ?_;intro c0 w0 Q h0 hQ
 refine WK [(0,Lz v0),(1,Iz v1)] [] 0 (by simp) (by simp) ?_;refine SW trivial [] [none] [] [] [] [] 0 ?_;obtain ⟨v3,h1,hF⟩:=AaH hF;refine CL trivial [] [none,none,none,none,none] (Adb k _ _ _ h1) [0,1] [(4,AV.bool (decide (0≤v3)))] [] [] 0 ?_;simp only [Option.some.injEq] at hF;subst hF;refine AW.ret (hQ _ _ _ ?_ (AaE ?_)).1
 ·simp [Try.f121]
 ·simp
theorem AhD (k : Nat) (v0 : Int) (v1 : (List AbD)) (v2 : (List Int)) (v3 : Int) (v4 : Int) (v5 : Int) (v6 : Bool) (hF : AfE k v0 v1 v2 v3 v4 v5=some v6) :
 AbA Try.prog 106 [AV.agg [AV.int .i64 v0,Q0 v1,AV.lst false false (List.map (AV.int .i64) v2)],AV.agg [AV.int .i64 v3,AV.int .i64 v4,AV.int .i64 v5]] [] (AV.bool v6) []:=by
 unfold AfE at hF;refine EN Try.func106 ?_;intro c0 w0 Q h0 hQ
 refine WK [(0,AV.agg [Iz v0,Q0 v1,Lz v2]),(1,AV.agg [Iz v3,Iz v4,Iz v5])] [] 0 (by simp) (by simp) ?_;refine SW trivial [] [none,none,none] [0,1] [(2,AV.ptr 0 0),(3,AV.ptr 1 0)] [] [(0,.cells [Iz v0,Q0 v1,Lz v2]),(1,.cells [Iz v3,Iz v4,Iz v5])] 2 ?_;refine SR [] [none,none,none,none,none,none,none,some (11,true),some (11,true),some (11,true),some (11,true),some (11,true),some (11,true),none,none,some (19,true),some (19,true),some (19,true),some (19,true),some (19,true),none,none,some (26,true),some (26,true),some (26,true),some (26,true),some (26,true),some (26,true),none,none,some (34,true),some (34,true),some (34,true),some (34,true),some (34,true),some (34,true),none,none] fun _ _ g r=>?_;try simp
 and_intros
 try any_goals first | omega | (simp [maxLen] <;> omega)
 obtain ⟨v7,h1,hF⟩:=AaH hF;refine AC (AcV k _ _ _ _ h1) (.cons (.same (by simp)) (.cons (.same (by simp)) (.cons (.same (by simp)) .nil))) ?_;by_cases h2 : v7=true
 ·replace hF:=AaN h2 hF;have h2_:=h2;try simp at h2_
  try simp [h2,h2_]
  and_intros
  try any_goals first | omega | (simp [h2,h2_,maxLen] <;> omega)
  obtain ⟨v8,h3,hF⟩:=AaH hF;refine AC (AcV k _ _ _ _ h3) (.cons (.same (by simp [h2,h2_])) (.cons (.same (by simp [h2,h2_])) (.cons (.same (by simp [h2,h2_])) .nil))) ?_;by_cases h4 : v8=true
  ·replace hF:=AaN h4 hF;have h4_:=h4;try simp at h4_
   by_cases h5 : v3≠v4
   ·replace hF:=AaN h5 hF;have h5_:=AbR h5;have h5__:=AbW h5;have F1:=A7 h2 h2_ h4 h4_ h5 h5_ h5__;try simp [F1]
    and_intros
    try any_goals first | omega | (simp [maxLen,F1] <;> omega)
    obtain ⟨v9,h6,hF⟩:=AaH hF;refine AC (Ab6 k _ _ _ h6) (.cons (.same (by simp [F1])) (.cons (.same (by simp [F1])) .nil)) ?_;by_cases h7 : (!v9)=true
    ·replace hF:=AaN h7 hF;have h7_:=h7;try simp at h7_
     have F2:=A3 F1 h7 h7_;try simp [F2]
     and_intros
     try any_goals first | omega | (simp [maxLen,F2] <;> omega)
     obtain ⟨v10,h8,hF⟩:=AaH hF;refine AC (Ab6 k _ _ _ h8) (.cons (.same (by simp [F2])) (.cons (.same (by simp [F2])) .nil)) ?_;refine TL F2 g r [2,3] [(4,AV.bool (!v10))] [0,1] [] 2 ?_;simp only [Option.some.injEq] at hF;subst hF;refine AW.ret (hQ _ _ _ ?_ (AaE ?_)).1
     ·simp [Try.f106,F2]
     ·simp [F2]
    ·replace hF:=AaO h7 hF;have h7_:=h7;try simp at h7_
     have F3:=A3 F1 h7 h7_;refine TL F3 g r [2,3] [(4,AV.bool false)] [0,1] [] 2 ?_;simp only [Option.some.injEq] at hF;subst hF;refine AW.ret (hQ _ _ _ ?_ (AaE ?_)).1
     ·simp [Try.f106,F3]
     ·simp [F3]
   ·replace hF:=AaO h5 hF;have h5q : v3=v4:=Classical.not_not.1 h5;have h5_:=AbY h5q;have h5__:=AbX h5q;have F4:=A6 h2 h2_ h4 h4_ h5_ h5__;refine TL F4 g r [2,3] [(4,AV.bool false)] [0,1] [] 2 ?_;simp only [Option.some.injEq] at hF;subst hF;refine AW.ret (hQ _ _ _ ?_ (AaE ?_)).1
    ·simp [Try.f106,F4]
    ·simp [F4]
  ·replace hF:=AaO h4 hF;have h4_:=h4;try simp at h4_
   have F5:=A4 h2 h2_ h4 h4_;refine TL F5 g r [2,3] [(4,AV.bool false)] [0,1] [] 2 ?_;simp only [Option.some.injEq] at hF;subst hF;refine AW.ret (hQ _ _ _ ?_ (AaE ?_)).1
   ·simp [Try.f106,F5]
   ·simp [F5]
 ·replace hF:=AaO h2 hF;have h2_:=h2;try simp at h2_
  refine TL (A2 h2 h2_) g r [2,3] [(4,AV.bool false)] [0,1] [] 2 ?_;simp only [Option.some.injEq] at hF;subst hF;refine AW.ret (hQ _ _ _ ?_ (AaE ?_)).1
  ·simp [Try.f106,h2,h2_]
  ·simp [h2,h2_]
theorem Adl (k : Nat) (v0 : Int) (v1 : Bool) (hF : Acn k v0=some v1) :
 AbA Try.prog 129 [AV.int .i64 v0] [] (AV.bool v1) []:=by
 unfold Acn at hF;refine EN Try.func129 ?_;intro c0 w0 Q h0 hQ
 refine WK [(0,Iz v0)] [] 0 (by simp) (by simp) ?_;refine SW trivial [] [none] [] [] [] [] 0 ?_;refine SW trivial [] [none,none,none,none] [0] [(2,AV.bool (v0 !=v0))] [] [] 0 ?_;simp only [Option.some.injEq] at hF;subst hF;refine AW.ret (hQ _ _ _ ?_ (AaE ?_)).1
 ·simp [Try.f129]
 ·simp
theorem AdL (k : Nat) (v0 : Int) (v1 : Int) (v2 : Int) (hF : AcO k v0 v1=some v2) :
 AbA Try.prog 123 [AV.int .i64 v0,AV.int .i64 v1] [] (AV.int .i64 v2) []:=by
 unfold AcO at hF;refine EN Try.func123 ?_;intro c0 w0 Q h0 hQ
 refine WK [(0,Iz v0),(1,Iz v1)] [] 0 (by simp) (by simp) ?_;refine SW trivial [] [none] [] [] [] [] 0 ?_;obtain ⟨v3,h1,hF⟩:=AaH hF;refine CL trivial [] [none,none,none] (Adl k _ _ h1) [] [(5,AV.bool v3)] [] [] 0 ?_;obtain ⟨v4,h2,hF⟩:=AaH hF;refine CL trivial [] [none,none,none] (Adl k _ _ h2) [] [(6,AV.bool v4)] [] [] 0 ?_;refine AW.seq fun K45 hK45=>?_;refine SW trivial [] [none] [5] [(11,AV.bool v3)] [] [] 0 ?_;by_cases h3 : v3=true
 ·replace hF:=AaN h3 hF;have h3_:=h3;try simp at h3_
  refine CT (by simp [h3,h3_] <;> omega) ?_;refine AW.seq fun K49 hK49=>?_;refine SW (A2 h3 h3_) [] [none] [0,1,6,11] [(12,AV.bool v4)] [] [] 0 ?_;by_cases h4 : v4=true
  ·replace hF:=AaN h4 hF;have h4_:=h4;try simp at h4_
   have F1:=A4 h3 h3_ h4 h4_;refine CT (by simp [F1] <;> omega) ?_;refine SW F1 [] [none] [12] [(4,Iz 0)] [] [] 0 ?_;simp only [Option.some.injEq] at hF;subst hF;refine AW.ret (hQ _ _ _ ?_ (AaE ?_)).1
   ·simp [Try.f123,F1]
   ·simp [F1]
  ·replace hF:=AaO h4 hF;have h4_:=h4;try simp at h4_
   have F2:=A4 h3 h3_ h4 h4_;refine CF (by simp [F2] <;> omega) ?_;refine AW.skip ?_;refine hK49 _ _ _ ?_;refine SW F2 [] [none] [12] [(4,Iz (-1))] [] [] 0 ?_;simp only [Option.some.injEq] at hF;subst hF;refine AW.ret (hQ _ _ _ ?_ (AaE ?_)).1
   ·simp [Try.f123,F2]
   ·simp [F2]
 ·replace hF:=AaO h3 hF;have h3_:=h3;try simp at h3_
  refine CF (by simp [h3,h3_] <;> omega) ?_;refine AW.skip ?_;refine hK45 _ _ _ ?_;refine AW.seq fun K55 hK55=>?_;refine SW (A2 h3 h3_) [] [none] [6,11] [(13,AV.bool v4)] [] [] 0 ?_;by_cases h5 : v4=true
  ·replace hF:=AaN h5 hF;have h5_:=h5;try simp at h5_
   have F3:=A4 h3 h3_ h5 h5_;refine CT (by simp [F3] <;> omega) ?_;refine SW F3 [] [none] [0,1,13] [(4,Iz 1)] [] [] 0 ?_;simp only [Option.some.injEq] at hF;subst hF;refine AW.ret (hQ _ _ _ ?_ (AaE ?_)).1
   ·simp [Try.f123,F3]
   ·simp [F3]
  ·replace hF:=AaO h5 hF;have h5_:=h5;try simp at h5_
   have F4:=A4 h3 h3_ h5 h5_;refine CF (by simp [F4] <;> omega) ?_;refine AW.skip ?_;refine hK55 _ _ _ ?_;refine AW.seq fun K60 hK60=>?_;refine SW F4 [] [none,none,none] [13] [(16,AV.bool (decide (v0<v1)))] [] [] 0 ?_;by_cases h6 : v0<v1
   ·replace hF:=AaN h6 hF;have h6_:=h6;try simp at h6_
    have F5:=A3 F4 h6 h6_;refine CT (by simp [F5] <;> omega) ?_;refine SW F5 [] [none] [0,1,16] [(4,Iz (-1))] [] [] 0 ?_;simp only [Option.some.injEq] at hF;subst hF;refine AW.ret (hQ _ _ _ ?_ (AaE ?_)).1
    ·simp [Try.f123,F5]
    ·simp [F5]
   ·replace hF:=AaO h6 hF;have h6_:=h6;try simp at h6_
    have F6:=A3 F4 h6 h6_;refine CF (by simp [F6] <;> omega) ?_;refine AW.skip ?_;refine hK60 _ _ _ ?_;refine AW.seq fun K65 hK65=>?_;refine SW F6 [] [none,none,none] [0,1,16] [(19,AV.bool (decide (v1<v0)))] [] [] 0 ?_;by_cases h7 : v1<v0
    ·replace hF:=AaN h7 hF;have h7_:=h7;try simp at h7_
     have F7:=A3 F6 h7 h7_;refine CT (by simp [F7] <;> omega) ?_;refine SW F7 [] [none] [19] [(4,Iz 1)] [] [] 0 ?_;simp only [Option.some.injEq] at hF;subst hF;refine AW.ret (hQ _ _ _ ?_ (AaE ?_)).1
     ·simp [Try.f123,F7]
     ·simp [F7]
    ·replace hF:=AaO h7 hF;have h7_:=h7;try simp at h7_
     have F8:=A3 F6 h7 h7_;refine CF (by simp [F8] <;> omega) ?_;refine AW.skip ?_;refine hK65 _ _ _ ?_;refine SW F8 [] [none] [19] [(4,Iz 0)] [] [] 0 ?_;simp only [Option.some.injEq] at hF;subst hF;refine AW.ret (hQ _ _ _ ?_ (AaE ?_)).1
     ·simp [Try.f123,F8]
     ·simp [F8]
theorem AhE (k : Nat) (v0 : (List Int)) (v1 : Int) (hF : Ab3 k v0=some v1) :
 AbA Try.prog 122 [AV.lst false false (List.map (AV.int .i64) v0)] [] (AV.int .i64 v1) []:=by
 unfold Ab3 at hF;refine EN Try.func122 ?_;intro c0 w0 Q h0 hQ
 refine WK [(0,Lz v0)] [] 0 (by simp) (by simp) ?_;refine SW trivial [] [none] [] [] [] [] 0 ?_;refine SW trivial [] [none] [] [(3,Iz 0)] [] [] 0 ?_;refine AW.seq fun K133 hK133=>?_;refine SW trivial [] [none,none,none] [0] [(6,Lz v0),(7,Iz (v0.length : Int)),(8,Iz 0)] [] [] 0 ?_;refine AW.block ?_;refine AW.loopF (α:=Int) (fun n v2=>Ab3.L1 k v0 n v2=some v1) (fun v2=>[(3,Iz 0),(6,Lz v0),(7,Iz (v0.length : Int)),(8,Iz v2)]) (fun v2=>[]) 0 k (0) hF (by simp) (by simp) (by simp) ?_;rintro (_|n1) v2 hF K165 hK165
 ·try dsimp only at hF
  rw [Ab3.L1] at hF; cases hF
 try dsimp only at hF
 rw [Ab3.L1] at hF;refine SW trivial [] [none] [] [(9,AV.bool (decide (v2<(v0.length : Int))))] [] [] 0 ?_;refine AW.seq fun K167 hK167=>?_;by_cases h1 : v2<(v0.length : Int)
 ·replace hF:=AaN h1 hF;have h1_:=h1;try simp at h1_
  refine CT (by simp [h1,h1_] <;> omega) ?_;refine AW.skip ?_;refine hK167 _ _ _ ?_;refine AW.seq fun K171 hK171=>?_;refine AW.block ?_;refine SR [] [none,none,none] fun _ _ g r=>?_;obtain ⟨v3,h2,h3,h4,hF⟩:=AaM hF;have h4_:=Aaf h4;try simp at h4_
  have h3_:=h3;try simp at h3_
  have F1:=A7 h1 h1_ h2 h3 h4 h4_ h3_;refine TL F1 g r [] [(5,Iz v3)] [] [] 0 ?_;refine SW F1 [] [none,none,none] [] [(14,AV.bool (v3 !=0))] [] [] 0 ?_;by_cases h5 : v3≠0
  ·replace hF:=AaN h5 hF;have h5_:=AbR h5;have h5__:=AbW h5;have F2:=A4 F1 h5 h5_ h5__;refine CT (by simp [F2] <;> omega) ?_;refine SW F2 [] [none,none] [3,5,6,7,8,14] [(2,Iz v3)] [] [] 0 ?_;simp only [Option.some.injEq] at hF;subst hF;refine AW.ret (hQ _ _ _ ?_ (AaE ?_)).1
   ·simp [Try.f122,F2]
   ·simp [F2]
  ·replace hF:=AaO h5 hF;have h5q : v3=0:=Classical.not_not.1 h5;have h5_:=AbY h5q;have h5__:=AbX h5q;have F3:=A4 F1 h5_ h5__ h5q;refine CF (by simp [F3] <;> omega) ?_;refine AW.skip ?_;refine hK171 _ _ _ ?_;refine RG [] [none,none] fun _ _ g r=>?_;try simp [F3]
   and_intros <;> first | exact GK g | apply r | omega | (simp [maxLen,F3] <;> omega)
   refine hK165 _ _ _ ?_;exact NX (k':=n1) (IntKind.wrap .i64 (v2+1)) hF (by simp [F3]) (by simp [F3])
 ·replace hF:=AaO h1 hF;have h1_:=h1;try simp at h1_
  refine CF (by simp [h1,h1_] <;> omega) ?_;refine AW.exit ?_;try simp
  refine hK133 _ _ _ ?_;refine SW (A2 h1 h1_) [] [none,none] [3,6,7,8] [(2,Iz 0)] [] [] 0 ?_;simp only [Option.some.injEq] at hF;subst hF;refine AW.ret (hQ _ _ _ ?_ (AaE ?_)).1
  ·simp [Try.f122,h1,h1_]
  ·simp [h1,h1_]
theorem Afd (k : Nat) (v0 : Int) (v1 : Int) (v2 : Int) (v3 : Int) (v4 : Int) (v5 : Int) (v6 : Int) (hF : AdY k v0 v1 v2 v3 v4 v5=some v6) :
 AbA Try.prog 107 [AV.agg [AV.int .i64 v0,AV.int .i64 v1,AV.int .i64 v2],AV.agg [AV.int .i64 v3,AV.int .i64 v4,AV.int .i64 v5]] [] (AV.int .i64 v6) []:=by
 unfold AdY at hF;refine EN Try.func107 ?_;intro c0 w0 Q h0 hQ
 refine WK [(0,AV.agg [Iz v0,Iz v1,Iz v2]),(1,AV.agg [Iz v3,Iz v4,Iz v5])] [] 0 (by simp) (by simp) ?_;refine SW trivial [] [none,none,none] [0,1] [(2,AV.ptr 0 0),(3,AV.ptr 1 0)] [] [(0,.cells [Iz v0,Iz v1,Iz v2]),(1,.cells [Iz v3,Iz v4,Iz v5])] 2 ?_;refine SR [] [none,none,none,none,none,none,none,none,none,none,none,none,none] fun _ _ g r=>?_;try simp
 and_intros
 try any_goals first | omega | (simp [maxLen] <;> omega)
 obtain ⟨v7,h1,hF⟩:=AaH hF;refine AC (AdL k _ _ _ h1) (.cons (.same (by simp)) (.cons (.same (by simp)) .nil)) ?_;try simp
 and_intros
 try any_goals first | omega | (simp [maxLen] <;> omega)
 obtain ⟨v8,h2,hF⟩:=AaH hF;refine AC (AdL k _ _ _ h2) (.cons (.same (by simp)) (.cons (.same (by simp)) .nil)) ?_;try simp
 and_intros
 try any_goals first | omega | (simp [maxLen] <;> omega)
 obtain ⟨v9,h3,hF⟩:=AaH hF;refine AC (AhE k _ _ h3) (.cons (Coe.fl (by simp)) .nil) ?_;refine TL trivial g r [2,3] [(4,Iz v9)] [0,1] [] 2 ?_;simp only [Option.some.injEq] at hF;subst hF;refine AW.ret (hQ _ _ _ ?_ (AaE ?_)).1
 ·simp [Try.f107]
 ·simp
theorem Agk (k : Nat) (v0 : Int) (v1 : (List AbD)) (v2 : (List Int)) (v3 : Int) (hF : Aa3 k v0 v1 v2=some v3) :
 AbA Try.prog 68 [AV.agg [AV.int .i64 v0,Q0 v1,AV.lst false false (List.map (AV.int .i64) v2)]] [] (AV.int .i64 v3) []:=by
 unfold Aa3 at hF;refine EN Try.func68 ?_;intro c0 w0 Q h0 hQ
 refine WK [(0,AV.agg [Iz v0,Q0 v1,Lz v2])] [] 0 (by simp) (by simp) ?_;refine SW trivial [] [none,none] [0] [(1,AV.ptr 0 0)] [] [(0,.cells [Iz v0,Q0 v1,Lz v2])] 1 ?_;refine AW.seq fun K126 hK126=>?_;refine SR [] [none,none,none,none,none,some (9,false),some (9,false),some (9,false),some (9,false),none,none,some (15,false),some (15,false),some (15,false),some (15,false),some (15,false),some (15,false),some (15,false),none] fun _ _ g r=>?_;try simp
 and_intros
 try any_goals first | omega | (simp [maxLen] <;> omega)
 obtain ⟨v4,h1,hF⟩:=AaH hF;refine AC (AcV k _ _ _ _ h1) (.cons (.same (by simp)) (.cons (.same (by simp)) (.cons (.same (by simp)) .nil))) ?_;by_cases h2 : (!v4)=true
 ·replace hF:=AaN h2 hF;have h2_:=h2;try simp at h2_
  refine TL (A2 h2 h2_) g r [] [(23,AV.bool true)] [] [] 1 ?_;refine CT (by simp [h2,h2_]) ?_;refine SW (A2 h2 h2_) [] [none] [1,23] [(2,Iz 14)] [0] [] 1 ?_;simp only [Option.some.injEq] at hF;subst hF;refine AW.ret (hQ _ _ _ ?_ (AaE ?_)).1
  ·simp [Try.f68,h2,h2_]
  ·simp [h2,h2_]
 ·replace hF:=AaO h2 hF;have h2_:=h2;try simp at h2_
  by_cases h3 : 500<(v1.length : Int)
  ·replace hF:=AaN h3 hF;have h3_:=h3;try simp at h3_
   have F1:=A4 h2 h2_ h3 h3_;refine TL F1 g r [] [(23,AV.bool true)] [] [] 1 ?_;refine CT (by simp [F1]) ?_;refine SW F1 [] [none] [1,23] [(2,Iz 14)] [0] [] 1 ?_;simp only [Option.some.injEq] at hF;subst hF;refine AW.ret (hQ _ _ _ ?_ (AaE ?_)).1
   ·simp [Try.f68,F1]
   ·simp [F1]
  ·replace hF:=AaO h3 hF;have h3_:=h3;try simp at h3_
   have F2:=A4 h2 h2_ h3 h3_;try simp [F2]
   and_intros
   try any_goals first | omega | (simp [maxLen,F2] <;> omega)
   obtain ⟨v5,h4,hF⟩:=AaH hF;refine AC (AeJ k _ _ _ _ h4) (.cons (.same (by simp [F2])) (.cons (.same (by simp [F2])) (.cons (.same (by simp [F2])) .nil))) ?_;refine TL F2 g r [] [(23,AV.bool (!v5))] [] [] 1 ?_;by_cases h5 : (!v5)=true
   ·replace hF:=AaN h5 hF;have h5_:=h5;try simp at h5_
    have F3:=A3 F2 h5 h5_;refine CT (by simp [F3] <;> omega) ?_;refine SW F3 [] [none] [1,23] [(2,Iz 14)] [0] [] 1 ?_;simp only [Option.some.injEq] at hF;subst hF;refine AW.ret (hQ _ _ _ ?_ (AaE ?_)).1
    ·simp [Try.f68,F3]
    ·simp [F3]
   ·replace hF:=AaO h5 hF;have h5_:=h5;try simp at h5_
    have F4:=A3 F2 h5 h5_;refine CF (by simp [F4] <;> omega) ?_;refine AW.skip ?_;refine hK126 _ _ _ ?_;refine AW.seq fun K185 hK185=>?_;refine SW F4 [] [none,none,none,none] [23] [(25,Q0 v1),(26,Iz (v1.length : Int)),(27,Iz 0)] [] [] 1 ?_;refine AW.block ?_;refine AW.loopF (α:=Int) (fun n v6=>Aa3.L1 k v0 v1 v2 n v6=some v3) (fun v6=>[(1,AV.ptr 0 0),(25,Q0 v1),(26,Iz (v1.length : Int)),(27,Iz v6)]) (fun v6=>[(0,.cells [Iz v0,Q0 v1,Lz v2])]) 1 k (0) hF (by simp [F4]) (by simp [F4]) (by simp) ?_;rintro (_|n1) v6 hF K225 hK225
    ·try dsimp only at hF
     rw [Aa3.L1] at hF; cases hF
    try dsimp only at hF
    rw [Aa3.L1] at hF;refine SW F4 [] [none] [] [(28,AV.bool (decide (v6<(v1.length : Int))))] [] [] 1 ?_;refine AW.seq fun K227 hK227=>?_;by_cases h6 : v6<(v1.length : Int)
    ·replace hF:=AaN h6 hF;have h6_:=h6;try simp at h6_
     have F5:=A3 F4 h6 h6_;refine CT (by simp [F5] <;> omega) ?_;refine AW.skip ?_;refine hK227 _ _ _ ?_;refine AW.midF (α:=Unit) (fun _=>Aa3.J2 k v6 (fun v6_=>Aa3.L1 k v0 v1 v2 n1 v6_)=some v3) (fun _=>[(1,AV.ptr 0 0),(25,Q0 v1),(26,Iz (v1.length : Int)),(27,Iz v6)]) (fun _=>[(0,.cells [Iz v0,Q0 v1,Lz v2])]) 1 (fun K234 hK234=>?_) ?_
     ·refine AW.block ?_;refine SR [] [none,none,none,none,none,none] fun _ _ g r=>?_;obtain ⟨v7,h7,h8,h9,hF⟩:=AaM hF;have h9_:=Aaf h9;try simp at h9_
      have h8_:=h8;try simp at h8_
      have F6:=A6 F5 h7 h8 h9 h9_ h8_;refine TL F6 g r [] [(3,Iz v6),(4,AV.ptr 1 0)] [] [(1,.cells [Iz v7.From,Iz v7.To,Iz v7.Level])] 2 ?_;refine SR [] [none,none,none,none,none,some (36,false),some (36,false),some (36,false),some (36,false),none,none,some (42,false),some (42,false),some (42,false),some (45,true),some (45,true),some (45,true),some (45,true),some (45,true),some (45,true),some (45,true),some (45,true),some (45,true),some (42,false),none] fun _ _ g r=>?_;try simp [F6]
      and_intros
      try any_goals first | omega | (simp [maxLen,F6] <;> omega)
      obtain ⟨v8,h10,hF⟩:=AaH hF;refine AC (AhD k _ _ _ _ _ _ _ h10) (.cons (.same (by simp [F6])) (.cons (.same (by simp [F6])) .nil)) ?_;by_cases h11 : (!v8)=true
      ·replace hF:=AaN h11 hF;have h11_:=h11;try simp at h11_
       have F7:=A3 F6 h11 h11_;refine TL F7 g r [3,4] [(56,AV.bool true)] [1] [] 2 ?_;refine CT (by simp [F7]) ?_;refine SW F7 [] [none] [1,25,26,27,56] [(2,Iz 14)] [0] [] 2 ?_;simp only [Option.some.injEq] at hF;subst hF;refine AW.ret (hQ _ _ _ ?_ (AaE ?_)).1
       ·simp [Try.f68,F7]
       ·simp [F7]
      ·replace hF:=AaO h11 hF;have h11_:=h11;try simp at h11_
       have F8:=A3 F6 h11 h11_;try simp [F8]
       and_intros
       try any_goals first | omega | (simp [maxLen,F8] <;> omega)
       obtain ⟨v9,h12,hF⟩:=AaH hF;refine AC (AcV k _ _ _ _ h12) (.cons (.same (by simp [F8])) (.cons (.same (by simp [F8])) (.cons (.same (by simp [F8])) .nil))) ?_;by_cases h13 : (!v9)=true
       ·replace hF:=AaN h13 hF;have h13_:=h13;try simp at h13_
        have F9:=A3 F8 h13 h13_;refine TL F9 g r [3,4] [(56,AV.bool true)] [1] [] 2 ?_;refine CT (by simp [F9]) ?_;refine SW F9 [] [none] [1,25,26,27,56] [(2,Iz 14)] [0] [] 2 ?_;simp only [Option.some.injEq] at hF;subst hF;refine AW.ret (hQ _ _ _ ?_ (AaE ?_)).1
        ·simp [Try.f68,F9]
        ·simp [F9]
       ·replace hF:=AaO h13 hF;have h13_:=h13;try simp at h13_
        by_cases h14 : 0<v6
        ·replace hF:=AaN h14 hF;have h14_:=h14;try simp at h14_
         obtain ⟨v10,h15,h16,h17,hF⟩:=AaM hF;have h17_:=Aaf h17;try simp at h17_
         have h16_:=h16;try simp at h16_
         have F10:=A9 F8 h13 h13_ h14 h14_ h15 h16 h17 (A2 h17_ h16_);try simp [F10]
         and_intros
         try any_goals first | omega | (simp [maxLen,F10] <;> omega)
         obtain ⟨v11,h18,hF⟩:=AaH hF;refine AC (Afd k _ _ _ _ _ _ _ h18) (.cons (.same (by simp [F10])) (.cons (.same (by simp [F10])) .nil)) ?_;refine TL F10 g r [3,4] [(56,AV.bool (decide (0≤v11)))] [1] [] 2 ?_;by_cases h19 : 0≤v11
         ·replace hF:=AaN h19 hF;have h19_:=h19;try simp at h19_
          have F11:=A3 F10 h19 h19_;refine CT (by simp [F11] <;> omega) ?_;refine SW F11 [] [none] [1,25,26,27,56] [(2,Iz 14)] [0] [] 2 ?_;simp only [Option.some.injEq] at hF;subst hF;refine AW.ret (hQ _ _ _ ?_ (AaE ?_)).1
          ·simp [Try.f68,F11]
          ·simp [F11]
         ·replace hF:=AaO h19 hF;have h19_:=h19;try simp at h19_
          have F12:=A3 F10 h19 h19_;refine CF (by simp [F12] <;> omega) ?_;refine AW.skip ?_;refine hK234 _ _ _ ?_;refine RN h0 [(0,0)] [(1,AV.ptr 0 0),(25,Q0 v1),(26,Iz (v1.length : Int)),(27,Iz v6)] [(0,.cells [Iz v0,Q0 v1,Lz v2])] 1 (by simp [F12]) (by simp [F12]) ?_;exact JN (()) hF (by simp [F12]) (by simp [F12])
        ·replace hF:=AaO h14 hF;have h14_:=h14;try simp at h14_
         have F13:=A5 F8 h13 h13_ h14 h14_;refine TL F13 g r [3,4] [(56,AV.bool false)] [1] [] 2 ?_;refine CF (by simp [F13]) ?_;refine AW.skip ?_;refine hK234 _ _ _ ?_;refine RN h0 [(0,0)] [(1,AV.ptr 0 0),(25,Q0 v1),(26,Iz (v1.length : Int)),(27,Iz v6)] [(0,.cells [Iz v0,Q0 v1,Lz v2])] 1 (by simp [F13]) (by simp [F13]) ?_;exact JN (()) hF (by simp [F13]) (by simp [F13])
     ·rintro ⟨⟩ hF
      try dsimp only at hF
      unfold Aa3.J2 at hF;refine RG [] [none,none] fun _ _ g r=>?_;try simp [F5]
      and_intros <;> first | exact GK g | apply r | omega | (simp [maxLen,F5] <;> omega)
      refine hK225 _ _ _ ?_;exact NX (k':=n1) (IntKind.wrap .i64 (v6+1)) hF (by simp [F5]) (by simp [F5])
    ·replace hF:=AaO h6 hF;have h6_:=h6;try simp at h6_
     have F14:=A3 F4 h6 h6_;refine CF (by simp [F14] <;> omega) ?_;refine AW.exit ?_;try simp
     refine hK185 _ _ _ ?_;refine SW F14 [] [none] [1,25,26,27] [(2,Iz 0)] [0] [] 1 ?_;simp only [Option.some.injEq] at hF;subst hF;refine AW.ret (hQ _ _ _ ?_ (AaE ?_)).1
     ·simp [Try.f68,F14]
     ·simp [F14]
theorem AfL (k : Nat) (v0 : Int) (v1 : (List AbD)) (v2 : (List Int)) (v3 : (List Int)) (v4 : (List Int)) (v5 : Int) (v6 : Int) (hF : Aae k v0 v1 v2 v3 v4 v5=some v6) :
 AbA Try.prog 36 [AV.agg [AV.int .i64 v0,Q0 v1,AV.lst false false (List.map (AV.int .i64) v2)],AV.agg [AV.lst false false (List.map (AV.int .i64) v3),AV.lst false false (List.map (AV.int .i64) v4),AV.int .i64 v5]] [] (AV.int .i64 v6) []:=by
 unfold Aae at hF;refine EN Try.func36 ?_;intro c0 w0 Q h0 hQ
 refine WK [(0,AV.agg [Iz v0,Q0 v1,Lz v2]),(1,AV.agg [Lz v3,Lz v4,Iz v5])] [] 0 (by simp) (by simp) ?_;refine SW trivial [] [none,none,none] [0,1] [(2,AV.ptr 0 0),(3,AV.ptr 1 0)] [] [(0,.cells [Iz v0,Q0 v1,Lz v2]),(1,.cells [Lz v3,Lz v4,Iz v5])] 2 ?_;refine AW.seq fun K118 hK118=>?_;obtain ⟨v7,h1,hF⟩:=AaH hF;refine CL trivial [] [none,none,none] (Agk k _ _ _ _ h1) [] [(5,Iz v7)] [] [] 2 ?_;refine SW trivial [] [none,none] [] [(11,AV.bool (v7 !=0))] [] [] 2 ?_;by_cases h2 : v7≠0
 ·replace hF:=AaN h2 hF;have h2_:=AbR h2;have h2__:=AbW h2;have F1:=A3 h2 h2_ h2__;refine CT (by simp [F1] <;> omega) ?_;refine SW F1 [] [none,none] [2,3,5,11] [(4,Iz v7)] [0,1] [] 2 ?_;simp only [Option.some.injEq] at hF;subst hF;refine AW.ret (hQ _ _ _ ?_ (AaE ?_)).1
  ·simp [Try.f36,F1]
  ·simp [F1]
 ·replace hF:=AaO h2 hF;have h2q : v7=0:=Classical.not_not.1 h2;have h2_:=AbY h2q;have h2__:=AbX h2q;refine CF (by simp [h2_,h2__,h2q] <;> omega) ?_;refine AW.skip ?_;refine hK118 _ _ _ ?_;refine AW.seq fun K127 hK127=>?_;refine SR [] [none,none,none,none,none,some (17,false),some (17,false),some (17,false),some (17,false),some (17,false),some (17,false),some (17,false),none,none,some (26,false),some (26,false),some (26,false),some (26,false),some (26,false),none,none,some (33,false),some (33,false),some (33,false),some (33,false),none] fun _ _ g r=>?_;by_cases h3 : (v3.length : Int)=0
  ·replace hF:=AaN h3 hF;have h3q : (v3.length : Int)=0:=h3;have h3_:=AbY h3q;have h3__:=AbX h3q;have F2:=A6 h2_ h2__ h2q h3_ h3__ h3q;refine TL F2 g r [2,5,11] [(38,AV.bool true)] [0] [] 2 ?_;refine CT (by simp [F2]) ?_;refine SW F2 [] [none] [3,38] [(4,Iz 15)] [1] [] 2 ?_;simp only [Option.some.injEq] at hF;subst hF;refine AW.ret (hQ _ _ _ ?_ (AaE ?_)).1
   ·simp [Try.f36,F2]
   ·simp [F2]
  ·replace hF:=AaO h3 hF;have h3_:=AbR h3;have h3__:=AbW h3;have F3:=A6 h2_ h2__ h2q h3 h3_ h3__;try simp [F3]
   and_intros
   try any_goals first | omega | (simp [maxLen,F3] <;> omega)
   obtain ⟨v8,h4,hF⟩:=AaH hF;refine AC (AeJ k _ _ _ _ h4) (.cons (.same (by simp [F3])) (.cons (.same (by simp [F3])) (.cons (.same (by simp [F3])) .nil))) ?_;by_cases h5 : (!v8)=true
   ·replace hF:=AaN h5 hF;have h5_:=h5;try simp at h5_
    have F4:=A3 F3 h5 h5_;refine TL F4 g r [2,5,11] [(38,AV.bool true)] [0] [] 2 ?_;refine CT (by simp [F4]) ?_;refine SW F4 [] [none] [3,38] [(4,Iz 15)] [1] [] 2 ?_;simp only [Option.some.injEq] at hF;subst hF;refine AW.ret (hQ _ _ _ ?_ (AaE ?_)).1
    ·simp [Try.f36,F4]
    ·simp [F4]
   ·replace hF:=AaO h5 hF;have h5_:=h5;try simp at h5_
    have F5:=A3 F3 h5 h5_;try simp [F5]
    and_intros
    try any_goals first | omega | (simp [maxLen,F5] <;> omega)
    obtain ⟨v9,h6,hF⟩:=AaH hF;refine AC (AcV k _ _ _ _ h6) (.cons (.same (by simp [F5])) (.cons (.same (by simp [F5])) (.cons (.same (by simp [F5])) .nil))) ?_;by_cases h7 : (!v9)=true
    ·replace hF:=AaN h7 hF;have h7_:=h7;try simp at h7_
     have F6:=A3 F5 h7 h7_;refine TL F6 g r [2,5,11] [(38,AV.bool true)] [0] [] 2 ?_;refine CT (by simp [F6]) ?_;refine SW F6 [] [none] [3,38] [(4,Iz 15)] [1] [] 2 ?_;simp only [Option.some.injEq] at hF;subst hF;refine AW.ret (hQ _ _ _ ?_ (AaE ?_)).1
     ·simp [Try.f36,F6]
     ·simp [F6]
    ·replace hF:=AaO h7 hF;have h7_:=h7;try simp at h7_
     have F7:=A3 F5 h7 h7_;try simp [F7]
     and_intros
     try any_goals first | omega | (simp [maxLen,F7] <;> omega)
     obtain ⟨v10,h8,hF⟩:=AaH hF;refine AC (AcV k _ _ _ _ h8) (.cons (.same (by simp [F7])) (.cons (.same (by simp [F7])) (.cons (.same (by simp [F7])) .nil))) ?_;refine TL F7 g r [2,5,11] [(38,AV.bool (!v10))] [0] [] 2 ?_;by_cases h9 : (!v10)=true
     ·replace hF:=AaN h9 hF;have h9_:=h9;try simp at h9_
      have F8:=A3 F7 h9 h9_;refine CT (by simp [F8] <;> omega) ?_;refine SW F8 [] [none] [3,38] [(4,Iz 15)] [1] [] 2 ?_;simp only [Option.some.injEq] at hF;subst hF;refine AW.ret (hQ _ _ _ ?_ (AaE ?_)).1
      ·simp [Try.f36,F8]
      ·simp [F8]
     ·replace hF:=AaO h9 hF;have h9_:=h9;try simp at h9_
      have F9:=A3 F7 h9 h9_;refine CF (by simp [F9] <;> omega) ?_;refine AW.skip ?_;refine hK127 _ _ _ ?_;refine AW.seq fun K179 hK179=>?_;refine SW F9 [] [none,none,none,none] [38] [(40,Lz v4),(41,Iz (v4.length : Int)),(42,Iz 0)] [] [] 2 ?_;refine AW.block ?_;refine RM h0 [(0,1)] [(3,AV.ptr 0 0),(40,Lz v4),(41,Iz (v4.length : Int)),(42,Iz 0)] [(0,.cells [Lz v3,Lz v4,Iz v5])] 1 (by simp [F9]) (by simp [F9]) ?_;refine AW.loopF (α:=Int) (fun n v11=>Aae.L1 k v4 n v11=some v6) (fun v11=>[(3,AV.ptr 0 0),(40,Lz v4),(41,Iz (v4.length : Int)),(42,Iz v11)]) (fun v11=>[(0,.cells [Lz v3,Lz v4,Iz v5])]) 1 k (0) hF (by simp [F9]) (by simp [F9]) (by simp) ?_;rintro (_|n1) v11 hF K213 hK213
      ·try dsimp only at hF
       rw [Aae.L1] at hF; cases hF
      try dsimp only at hF
      rw [Aae.L1] at hF;refine SW F9 [] [none] [] [(43,AV.bool (decide (v11<(v4.length : Int))))] [] [] 1 ?_;refine AW.seq fun K215 hK215=>?_;by_cases h10 : v11<(v4.length : Int)
      ·replace hF:=AaN h10 hF;have h10_:=h10;try simp at h10_
       have F10:=A3 F9 h10 h10_;refine CT (by simp [F10] <;> omega) ?_;refine AW.skip ?_;refine hK215 _ _ _ ?_;refine AW.midF (α:=Unit) (fun _=>Aae.J2 k v11 (fun v11_=>Aae.L1 k v4 n1 v11_)=some v6) (fun _=>[(3,AV.ptr 0 0),(40,Lz v4),(41,Iz (v4.length : Int)),(42,Iz v11)]) (fun _=>[(0,.cells [Lz v3,Lz v4,Iz v5])]) 1 (fun K221 hK221=>?_) ?_
       ·refine AW.block ?_;refine SR [] [none,none,none,none,none] fun _ _ g r=>?_;obtain ⟨v12,h11,h12,h13,hF⟩:=AaM hF;have h13_:=Aaf h13;try simp at h13_
        have h12_:=h12;try simp at h12_
        have F11:=A6 F10 h11 h12 h13 h13_ h12_;refine TL F11 g r [] [(6,Iz v11),(7,Iz v12)] [] [] 1 ?_;refine SR [] [none,none,none,none,some (50,false),some (50,false),some (50,false),some (53,true),some (53,true),some (53,true),some (53,true),some (53,true),some (53,true),some (53,true),some (53,true),some (50,false),none] fun _ _ g r=>?_;try simp [F11]
        and_intros
        try any_goals first | omega | (simp [maxLen,F11] <;> omega)
        obtain ⟨v13,h14,hF⟩:=AaH hF;refine AC (AcV k _ _ _ _ h14) (.cons (.same (by simp [F11])) (.cons (.same (by simp [F11])) (.cons (.same (by simp [F11])) .nil))) ?_;by_cases h15 : (!v13)=true
        ·replace hF:=AaN h15 hF;have h15_:=h15;try simp at h15_
         have F12:=A3 F11 h15 h15_;refine TL F12 g r [6,7] [(63,AV.bool true)] [] [] 1 ?_;refine CT (by simp [F12]) ?_;refine SW F12 [] [none] [3,40,41,42,63] [(4,Iz 15)] [0] [] 1 ?_;simp only [Option.some.injEq] at hF;subst hF;refine AW.ret (hQ _ _ _ ?_ (AaE ?_)).1
         ·simp [Try.f36,F12]
         ·simp [F12]
        ·replace hF:=AaO h15 hF;have h15_:=h15;try simp at h15_
         by_cases h16 : 0<v11
         ·replace hF:=AaN h16 hF;have h16_:=h16;try simp at h16_
          obtain ⟨v14,h17,h18,h19,hF⟩:=AaM hF;have h19_:=Aaf h19;try simp at h19_
          have h18_:=h18;try simp at h18_
          have F13:=A9 F11 h15 h15_ h16 h16_ h17 h18 h19 (A2 h19_ h18_);refine TL F13 g r [6,7] [(63,AV.bool (decide (v14<v12)))] [] [] 1 ?_;by_cases h20 : v14<v12
          ·replace hF:=AaN h20 hF;have h20_:=h20;try simp at h20_
           have F14:=A3 F13 h20 h20_;refine CT (by simp [F14] <;> omega) ?_;refine SW F14 [] [none] [3,40,41,42,63] [(4,Iz 15)] [0] [] 1 ?_;simp only [Option.some.injEq] at hF;subst hF;refine AW.ret (hQ _ _ _ ?_ (AaE ?_)).1
           ·simp [Try.f36,F14]
           ·simp [F14]
          ·replace hF:=AaO h20 hF;have h20_:=h20;try simp at h20_
           have F15:=A3 F13 h20 h20_;refine CF (by simp [F15] <;> omega) ?_;refine AW.skip ?_;refine hK221 _ _ _ ?_;exact JN (()) hF (by simp [F15]) (by simp [F15])
         ·replace hF:=AaO h16 hF;have h16_:=h16;try simp at h16_
          have F16:=A5 F11 h15 h15_ h16 h16_;refine TL F16 g r [6,7] [(63,AV.bool false)] [] [] 1 ?_;refine CF (by simp [F16]) ?_;refine AW.skip ?_;refine hK221 _ _ _ ?_;exact JN (()) hF (by simp [F16]) (by simp [F16])
       ·rintro ⟨⟩ hF
        try dsimp only at hF
        unfold Aae.J2 at hF;refine RG [] [none,none] fun _ _ g r=>?_;try simp [F10]
        and_intros <;> first | exact GK g | apply r | omega | (simp [maxLen,F10] <;> omega)
        refine hK213 _ _ _ ?_;exact NX (k':=n1) (IntKind.wrap .i64 (v11+1)) hF (by simp [F10]) (by simp [F10])
      ·replace hF:=AaO h10 hF;have h10_:=h10;try simp at h10_
       have F17:=A3 F9 h10 h10_;refine CF (by simp [F17] <;> omega) ?_;refine AW.exit ?_;try simp
       refine hK179 _ _ _ ?_;refine SW F17 [] [none] [3,40,41,42] [(4,Iz 0)] [0] [] 1 ?_;simp only [Option.some.injEq] at hF;subst hF;refine AW.ret (hQ _ _ _ ?_ (AaE ?_)).1
       ·simp [Try.f36,F17]
       ·simp [F17]
theorem Af2 (k : Nat) (v0 : (List Int)) (v1 : (List Int)) (v2 : (List Int)) (v3 : Int) (v4 : Int) (v5 : Int) (v6 : Int) (v7 : Int) (hF : Acd k v0 v1 v2 v3 v4 v5 v6=some v7) :
 AbA Try.prog 12 [AV.agg [AV.lst false false (List.map (AV.int .i64) v0),AV.lst false false (List.map (AV.int .i64) v1),AV.lst false false (List.map (AV.int .i64) v2),AV.int .i64 v3,AV.int .i64 v4,AV.int .i64 v5,AV.int .i64 v6]] [] (AV.int .i64 v7) []:=by
 unfold Acd at hF;refine EN Try.func12 ?_;intro c0 w0 Q h0 hQ
 refine WK [(0,AV.agg [Lz v0,Lz v1,Lz v2,Iz v3,Iz v4,Iz v5,Iz v6])] [] 0 (by simp) (by simp) ?_;refine SW trivial [] [none,none] [0] [(1,AV.ptr 0 0)] [] [(0,.cells [Lz v0,Lz v1,Lz v2,Iz v3,Iz v4,Iz v5,Iz v6])] 1 ?_;refine AW.seq fun K33 hK33=>?_;obtain ⟨v8,h1,hF⟩:=AaH hF;refine CL trivial [] [none,none,none,none] (Af1 k _ _ h1) [] [(7,AV.bool (!v8))] [] [] 1 ?_;by_cases h2 : (!v8)=true
 ·replace hF:=AaN h2 hF;have h2_:=h2;try simp at h2_
  refine CT (by simp [h2,h2_] <;> omega) ?_;refine SW (A2 h2 h2_) [] [none] [1,7] [(2,Iz 43)] [0] [] 1 ?_;simp only [Option.some.injEq] at hF;subst hF;refine AW.ret (hQ _ _ _ ?_ (AaE ?_)).1
  ·simp [Try.f12,h2,h2_]
  ·simp [h2,h2_]
 ·replace hF:=AaO h2 hF;have h2_:=h2;try simp at h2_
  refine CF (by simp [h2,h2_] <;> omega) ?_;refine AW.skip ?_;refine hK33 _ _ _ ?_;refine AW.seq fun K39 hK39=>?_;refine SR [] [none,none,none,none,none] fun _ _ g r=>?_;try simp [h2,h2_]
  and_intros
  try any_goals first | omega | (simp [h2,h2_,maxLen] <;> omega)
  obtain ⟨v9,h3,hF⟩:=AaH hF;refine AC (AfL k _ _ _ _ _ _ _ h3) (.cons (.agg (.cons (.same (by simp [h2,h2_])) (.cons (Coe.fl (by simp [h2,h2_])) (.cons (Coe.fl (by simp [h2,h2_])) .nil)))) (.cons (.same (by simp [h2,h2_])) .nil)) ?_;refine TL (A2 h2 h2_) g r [7] [(3,Iz v9)] [] [] 1 ?_;refine SW (A2 h2 h2_) [] [none,none] [] [(13,AV.bool (v9 !=0))] [] [] 1 ?_;by_cases h4 : v9≠0
  ·replace hF:=AaN h4 hF;have h4_:=AbR h4;have h4__:=AbW h4;have F1:=A5 h2 h2_ h4 h4_ h4__;refine CT (by simp [F1] <;> omega) ?_;refine SW F1 [] [none,none] [1,3,13] [(2,Iz v9)] [0] [] 1 ?_;simp only [Option.some.injEq] at hF;subst hF;refine AW.ret (hQ _ _ _ ?_ (AaE ?_)).1
   ·simp [Try.f12,F1]
   ·simp [F1]
  ·replace hF:=AaO h4 hF;have h4q : v9=0:=Classical.not_not.1 h4;have h4_:=AbY h4q;have h4__:=AbX h4q;refine CF (by simp [h2,h2_,h4_,h4__,h4q] <;> omega) ?_;refine AW.skip ?_;refine hK39 _ _ _ ?_;refine AW.seq fun K50 hK50=>?_;refine SR [] [none,none,none,none,some (18,false),some (18,false),some (18,false),none,none,some (23,false),some (23,false),some (23,false),none,none,some (28,false),some (28,false),some (28,false),none,none,some (33,false),some (33,false),some (33,false),none,none,some (38,false),some (38,false),some (38,false),none] fun _ _ g r=>?_;by_cases h5 : v4<1
   ·replace hF:=AaN h5 hF;have h5_:=h5;try simp at h5_
    have F2:=A7 h2 h2_ h4_ h4__ h4q h5 h5_;refine TL F2 g r [1,3,13] [(42,AV.bool true)] [0] [] 1 ?_;refine CT (by simp [F2]) ?_;refine SW F2 [] [none] [42] [(2,Iz 40)] [] [] 1 ?_;simp only [Option.some.injEq] at hF;subst hF;refine AW.ret (hQ _ _ _ ?_ (AaE ?_)).1
    ·simp [Try.f12,F2]
    ·simp [F2]
   ·replace hF:=AaO h5 hF;have h5_:=h5;try simp at h5_
    by_cases h6 : 9<v4
    ·replace hF:=AaN h6 hF;have h6_:=h6;try simp at h6_
     have F3:=A9 h2 h2_ h4_ h4__ h4q h5 h5_ h6 h6_;refine TL F3 g r [1,3,13] [(42,AV.bool true)] [0] [] 1 ?_;refine CT (by simp [F3]) ?_;refine SW F3 [] [none] [42] [(2,Iz 40)] [] [] 1 ?_;simp only [Option.some.injEq] at hF;subst hF;refine AW.ret (hQ _ _ _ ?_ (AaE ?_)).1
     ·simp [Try.f12,F3]
     ·simp [F3]
    ·replace hF:=AaO h6 hF;have h6_:=h6;try simp at h6_
     by_cases h7 : v5<1
     ·replace hF:=AaN h7 hF;have h7_:=h7;try simp at h7_
      have F4:=A9 h2 h2_ h4_ h4__ h4q h5 h5_ h6 (A3 h6_ h7 h7_);refine TL F4 g r [1,3,13] [(42,AV.bool true)] [0] [] 1 ?_;refine CT (by simp [F4]) ?_;refine SW F4 [] [none] [42] [(2,Iz 40)] [] [] 1 ?_;simp only [Option.some.injEq] at hF;subst hF;refine AW.ret (hQ _ _ _ ?_ (AaE ?_)).1
      ·simp [Try.f12,F4]
      ·simp [F4]
     ·replace hF:=AaO h7 hF;have h7_:=h7;try simp at h7_
      by_cases h8 : 1000000<v5
      ·replace hF:=AaN h8 hF;have h8_:=h8;try simp at h8_
       have F5:=A9 h2 h2_ h4_ h4__ h4q h5 h5_ h6 (A5 h6_ h7 h7_ h8 h8_);refine TL F5 g r [1,3,13] [(42,AV.bool true)] [0] [] 1 ?_;refine CT (by simp [F5]) ?_;refine SW F5 [] [none] [42] [(2,Iz 40)] [] [] 1 ?_;simp only [Option.some.injEq] at hF;subst hF;refine AW.ret (hQ _ _ _ ?_ (AaE ?_)).1
       ·simp [Try.f12,F5]
       ·simp [F5]
      ·replace hF:=AaO h8 hF;have h8_:=h8;try simp at h8_
       by_cases h9 : v6<0
       ·replace hF:=AaN h9 hF;have h9_:=h9;try simp at h9_
        have F6:=A9 h2 h2_ h4_ h4__ h4q h5 h5_ h6 (A7 h6_ h7 h7_ h8 h8_ h9 h9_);refine TL F6 g r [1,3,13] [(42,AV.bool true)] [0] [] 1 ?_;refine CT (by simp [F6]) ?_;refine SW F6 [] [none] [42] [(2,Iz 40)] [] [] 1 ?_;simp only [Option.some.injEq] at hF;subst hF;refine AW.ret (hQ _ _ _ ?_ (AaE ?_)).1
        ·simp [Try.f12,F6]
        ·simp [F6]
       ·replace hF:=AaO h9 hF;have h9_:=h9;try simp at h9_
        have F7:=A9 h2 h2_ h4_ h4__ h4q h5 h5_ h6 (A7 h6_ h7 h7_ h8 h8_ h9 h9_);refine TL F7 g r [1,3,13] [(42,AV.bool (decide (64<v6)))] [0] [] 1 ?_;by_cases h10 : 64<v6
        ·replace hF:=AaN h10 hF;have h10_:=h10;try simp at h10_
         have F8:=A3 F7 h10 h10_;refine CT (by simp [F8] <;> omega) ?_;refine SW F8 [] [none] [42] [(2,Iz 40)] [] [] 1 ?_;simp only [Option.some.injEq] at hF;subst hF;refine AW.ret (hQ _ _ _ ?_ (AaE ?_)).1
         ·simp [Try.f12,F8]
         ·simp [F8]
        ·replace hF:=AaO h10 hF;have h10_:=h10;try simp at h10_
         have F9:=A3 F7 h10 h10_;refine CF (by simp [F9] <;> omega) ?_;refine AW.skip ?_;refine hK50 _ _ _ ?_;refine SW F9 [] [none] [42] [(2,Iz 0)] [] [] 1 ?_;simp only [Option.some.injEq] at hF;subst hF;refine AW.ret (hQ _ _ _ ?_ (AaE ?_)).1
         ·simp [Try.f12,F9]
         ·simp [F9]
theorem AdM (k : Nat) (v0 : (List Int)) (v1 : (List Int)) (v2 : (List Int)) (hF : AaX k v0 v1=some v2) :
 AbA Try.prog 75 [AV.slc 0 0 1 v0.length false,AV.lst false false (List.map (AV.int .i64) v1)] [.grow (List.map (AV.int .u8) v0)] (AV.slc 1 0 1 v2.length false) [none,some (.grow (List.map (AV.int .u8) v2))]:=by
 unfold AaX at hF;refine EN Try.func75 ?_;intro c0 w0 Q h0 hQ
 refine WK [(0,AV.slc 0 0 1 v0.length false),(1,Lz v1)] [(0,.grow (List.map (AV.int .u8) v0))] 1 (by simp) (by simp) ?_;refine SW trivial [] [none] [] [] [] [] 1 ?_;refine AW.seq fun K803 hK803=>?_;refine SW trivial [] [none,none,none] [1] [(8,Lz v1),(9,Iz (v1.length : Int)),(10,Iz 0)] [] [] 1 ?_;refine AW.block ?_;refine AW.rnm (m:=1) h0 [(1,0)] [(0,AV.slc 1 0 1 v0.length false),(8,Lz v1),(9,Iz (v1.length : Int)),(10,Iz 0)] [(1,.grow (List.map (AV.int .u8) v0))] 2 (by decide) (by decide) (by decide) rfl (by simp) (by simp) ?_;refine AW.loopF (α:=(Int×(List Int))) (fun n (v3,v4)=>AaX.L1 k v1 n v3 v4=some v2) (fun (v3,v4)=>[(0,AV.slc 1 0 1 v4.length false),(8,Lz v1),(9,Iz (v1.length : Int)),(10,Iz v3)]) (fun (v3,v4)=>[(1,.grow (List.map (AV.int .u8) v4))]) 2 k ((0,v0)) hF (by simp) (by simp) (by simp) ?_;rintro (_|n1) ⟨v3,v4⟩ hF K1003 hK1003
 ·try dsimp only at hF
  rw [AaX.L1] at hF; cases hF
 try dsimp only at hF
 rw [AaX.L1] at hF;refine SW trivial [] [none] [] [(11,AV.bool (decide (v3<(v1.length : Int))))] [] [] 2 ?_;refine AW.seq fun K1005 hK1005=>?_;by_cases h1 : v3<(v1.length : Int)
 ·replace hF:=AaN h1 hF;have h1_:=h1;try simp at h1_
  refine CT (by simp [h1,h1_] <;> omega) ?_;refine AW.skip ?_;refine hK1005 _ _ _ ?_;refine AW.seq fun K1037 hK1037=>?_;refine AW.block ?_;refine SR [] [none,none,none] fun _ _ g r=>?_;obtain ⟨v5,h2,h3,h4,hF⟩:=AaM hF;have h4_:=Aaf h4;try simp at h4_
  have h3_:=h3;try simp at h3_
  have F1:=A7 h1 h1_ h2 h3 h4 h4_ h3_;refine TL F1 g r [] [(6,Iz v5)] [] [] 2 ?_;refine SW F1 [] [none] [] [(7,Iz 56)] [] [] 2 ?_;refine AW.block ?_;refine AW.loopF (α:=(Int×(List Int))) (fun n (v6,v7)=>AaX.L2 k v3 v5 (fun v3_ v4_=>AaX.L1 k v1 n1 v3_ v4_) n v6 v7=some v2) (fun (v6,v7)=>[(0,AV.slc 1 0 1 v7.length false),(6,Iz v5),(7,Iz v6),(8,Lz v1),(9,Iz (v1.length : Int)),(10,Iz v3)]) (fun (v6,v7)=>[(1,.grow (List.map (AV.int .u8) v7))]) 2 k ((56,v4)) hF (by simp [F1]) (by simp [F1]) (by simp) ?_;rintro (_|n2) ⟨v6,v7⟩ hF K1061 hK1061
  ·try dsimp only at hF
   rw [AaX.L2] at hF; cases hF
  try dsimp only at hF
  rw [AaX.L2] at hF;refine AW.seq fun K1063 hK1063=>?_;refine SW F1 [] [none,none] [] [(15,AV.bool (decide (0≤v6)))] [] [] 2 ?_;by_cases h5 : 0≤v6
  ·replace hF:=AaN h5 hF;have h5_:=h5;try simp at h5_
   have F2:=A3 F1 h5 h5_;refine CT (by simp [F2] <;> omega) ?_;refine AW.skip ?_;refine hK1063 _ _ _ ?_;refine AW.seq fun K1066 hK1066=>?_;refine AW.block ?_;refine RG [] [none,none,none,none,none,none,none,none,none] fun _ _ g r=>?_;obtain ⟨h6,hF⟩:=AaJ hF;obtain ⟨h7,hF⟩:=AaJ hF;have h7_:=h7;try simp at h7_
   have F3:=A3 F2 h6 h7;try simp [F3]
   and_intros <;> first | exact GK g | apply r | omega | (simp [maxLen,F3] <;> omega)
   refine hK1066 _ _ _ ?_;refine WK [(0,AV.slc 2 0 1 ((v7++([IntKind.wrap .u8 (Int.fdiv (IntKind.wrap .u64 v5) (2 ^ (min v6.toNat 64)))] : List Int)).length) false),(6,Iz v5),(7,Iz v6),(8,Lz v1),(9,Iz (v1.length : Int)),(10,Iz v3)] [(2,.grow (List.map (AV.int .u8) (v7++([IntKind.wrap .u8 (Int.fdiv (IntKind.wrap .u64 v5) (2 ^ (min v6.toNat 64)))] : List Int))))] 3 (by simp [F3] <;> omega) (by simp [F3]) ?_;refine RG [] [none,none,none] fun _ _ g r=>?_;try simp [F3]
   and_intros <;> first | exact GK g | apply r | omega | (simp [maxLen,F3] <;> omega)
   refine hK1061 _ _ _ ?_;refine Can.weak [(0,AV.slc 2 0 1 ((v7++([IntKind.wrap .u8 (Int.fdiv (IntKind.wrap .u64 v5) (2 ^ (min v6.toNat 64)))] : List Int)).length) false),(6,Iz v5),(7,Iz (IntKind.wrap .i64 (v6-8))),(8,Lz v1),(9,Iz (v1.length : Int)),(10,Iz v3)] [(2,.grow (List.map (AV.int .u8) (v7++([IntKind.wrap .u8 (Int.fdiv (IntKind.wrap .u64 v5) (2 ^ (min v6.toNat 64)))] : List Int))))] 3 (by simp [F3] <;> omega) (by simp [F3]) (by simp) ?_;refine Can.ren (m:=1) h0 [(1,2)] [(0,AV.slc 1 0 1 ((v7++([IntKind.wrap .u8 (Int.fdiv (IntKind.wrap .u64 v5) (2 ^ (min v6.toNat 64)))] : List Int)).length) false),(6,Iz v5),(7,Iz (IntKind.wrap .i64 (v6-8))),(8,Lz v1),(9,Iz (v1.length : Int)),(10,Iz v3)] [(1,.grow (List.map (AV.int .u8) (v7++([IntKind.wrap .u8 (Int.fdiv (IntKind.wrap .u64 v5) (2 ^ (min v6.toNat 64)))] : List Int))))] 2 (by decide) (by decide) (by decide) rfl (by simp [F3]) (by simp [F3]) ?_;exact NX (k':=n2) ((IntKind.wrap .i64 (v6-8),v7++([IntKind.wrap .u8 (Int.fdiv (IntKind.wrap .u64 v5) (2 ^ (min v6.toNat 64)))] : List Int))) hF (by simp [F3]) (by simp [F3])
  ·replace hF:=AaO h5 hF;have h5_:=h5;try simp at h5_
   have F4:=A3 F1 h5 h5_;refine CF (by simp [F4] <;> omega) ?_;refine AW.exit ?_;try simp
   refine hK1037 _ _ _ ?_;refine RG [] [none,none] fun _ _ g r=>?_;try simp [F4]
   and_intros <;> first | exact GK g | apply r | omega | (simp [maxLen,F4] <;> omega)
   refine hK1003 _ _ _ ?_;exact NX (k':=n1) ((IntKind.wrap .i64 (v3+1),v7)) hF (by simp [F4]) (by simp [F4])
 ·replace hF:=AaO h1 hF;have h1_:=h1;try simp at h1_
  refine CF (by simp [h1,h1_] <;> omega) ?_;refine AW.exit ?_;try simp
  refine hK803 _ _ _ ?_;refine SW (A2 h1 h1_) [] [none,none] [0,8,9,10] [(4,AV.slc 1 0 1 v4.length false)] [] [] 2 ?_;simp only [Option.some.injEq] at hF;subst hF;refine AW.ret (hQ _ _ _ ?_ (AaE ?_)).1
  ·simp [Try.f75,h1,h1_]
  ·simp [h1,h1_]
end Go.TF
