import Derived.Test.YtomgdcnbceiggaaBazWal27
import Derived.Test.YtomgdcnbceiggaaBazWal28
set_option linter.unusedVariables false
set_option linter.unusedSimpArgs false
set_option maxRecDepth 100000
set_option maxHeartbeats 4000000
namespace Go.TF
open Go Go.Abs Go.Proofs Go.Proofs.YtomgdcnbceiggaaBaT
theorem AfN (k : Nat) (v0 : ByteArray) (v1 : (List Int)) (v2 : Int) (v3 : (List Int)) (v4 : Int) (hF : Aau k v0 v1 v2=some (v3,v4)) :
 AbA Try.prog 40 [AV.str v0,AV.lst false false (List.map (AV.int .i64) v1),AV.int .i64 v2] [] (AV.tup [AV.slc 0 0 1 v3.length false,AV.int .i64 v4]) [some (Gi v3)]:=by
 unfold Aau at hF;refine EN Try.func40 ?_;intro c0 w0 Q h0 hQ
 refine WK [(0,AV.str v0),(1,Lz v1),(2,Iz v2)] [] 0 (by simp) (by simp) ?_;refine SW trivial [] [none,none] [] [] [] [] 0 ?_;refine AW.seq fun K1233 hK1233=>?_;refine AW.block ?_;refine SW trivial [] [none,none,none,none] [] [(14,AV.bool ((v0.size : Int) !=32))] [] [] 0 ?_;by_cases h1 : (v0.size : Int)≠32
 ·replace hF:=AaN h1 hF;have h1_:=AbR h1;have h1__:=AbW h1;have F1:=A3 h1 h1_ h1__;refine CT (by simp [F1] <;> omega) ?_;refine SW F1 [] [none,none] [0,1,2,14] [(6,AV.lst true true (List.map (AV.int .i64) ([] : List Int))),(7,Iz 1)] [] [] 0 ?_;refine AW.own' 6 1 true (by simp [F1]) (by decide) ?_;simp only [Option.some.injEq,Prod.mk.injEq] at hF;obtain ⟨e0,e1⟩:=hF;subst e0 e1;refine AW.ret (hQ _ _ _ ?_ (AaE ?_)).1
  ·simp [Try.f40,F1]
  ·simp [F1]
 ·replace hF:=AaO h1 hF;have h1q : (v0.size : Int)=32:=Classical.not_not.1 h1;have h1_:=AbY h1q;have h1__:=AbX h1q;have F2:=A3 h1_ h1__ h1q;refine CF (by simp [F2] <;> omega) ?_;refine SW F2 [] [none,none,none,none] [14] [(18,AV.bool (decide (64<(v1.length : Int))))] [] [] 0 ?_;by_cases h2 : 64<(v1.length : Int)
  ·replace hF:=AaN h2 hF;have h2_:=h2;try simp at h2_
   have F3:=A3 F2 h2 h2_;refine CT (by simp [F3] <;> omega) ?_;refine SW F3 [] [none,none] [0,1,2,18] [(6,AV.lst true true (List.map (AV.int .i64) ([] : List Int))),(7,Iz 3)] [] [] 0 ?_;refine AW.own' 6 1 true (by simp [F3]) (by decide) ?_;simp only [Option.some.injEq,Prod.mk.injEq] at hF;obtain ⟨e0,e1⟩:=hF;subst e0 e1;refine AW.ret (hQ _ _ _ ?_ (AaE ?_)).1
   ·simp [Try.f40,F3]
   ·simp [F3]
  ·replace hF:=AaO h2 hF;have h2_:=h2;try simp at h2_
   have F4:=A3 F2 h2 h2_;refine CF (by simp [F4] <;> omega) ?_;refine SR [] [none,none,none,some (25,false),some (25,false),none,none] fun _ _ g r=>?_;by_cases h3 : v2<0
   ·replace hF:=AaN h3 hF;have h3_:=h3;try simp at h3_
    have F5:=A3 F4 h3 h3_;refine TL F5 g r [18] [(22,AV.bool true)] [] [] 0 ?_;refine CT (by simp [F5]) ?_;refine SW F5 [] [none,none] [0,1,2,22] [(6,AV.lst true true (List.map (AV.int .i64) ([] : List Int))),(7,Iz 2)] [] [] 0 ?_;refine AW.own' 6 1 true (by simp [F5]) (by decide) ?_;simp only [Option.some.injEq,Prod.mk.injEq] at hF;obtain ⟨e0,e1⟩:=hF;subst e0 e1;refine AW.ret (hQ _ _ _ ?_ (AaE ?_)).1
    ·simp [Try.f40,F5]
    ·simp [F5]
   ·replace hF:=AaO h3 hF;have h3_:=h3;try simp at h3_
    have F6:=A3 F4 h3 h3_;refine TL F6 g r [18] [(22,AV.bool (decide (64<v2)))] [] [] 0 ?_;by_cases h4 : 64<v2
    ·replace hF:=AaN h4 hF;have h4_:=h4;try simp at h4_
     have F7:=A3 F6 h4 h4_;refine CT (by simp [F7] <;> omega) ?_;refine SW F7 [] [none,none] [0,1,2,22] [(6,AV.lst true true (List.map (AV.int .i64) ([] : List Int))),(7,Iz 2)] [] [] 0 ?_;refine AW.own' 6 1 true (by simp [F7]) (by decide) ?_;simp only [Option.some.injEq,Prod.mk.injEq] at hF;obtain ⟨e0,e1⟩:=hF;subst e0 e1;refine AW.ret (hQ _ _ _ ?_ (AaE ?_)).1
     ·simp [Try.f40,F7]
     ·simp [F7]
    ·replace hF:=AaO h4 hF;have h4_:=h4;try simp at h4_
     have F8:=A3 F6 h4 h4_;refine CF (by simp [F8] <;> omega) ?_;refine AW.skip ?_;refine hK1233 _ _ _ ?_;refine SW F8 [] [none] [22] [(8,AV.lst true true (List.map (AV.int .i64) ([] : List Int)))] [] [] 0 ?_;refine SR [30] [none,none,none,none,none] fun _ _ g r=>?_;try simp [F8]
     and_intros
     try any_goals first | omega | (simp [maxLen,F8] <;> omega)
     obtain ⟨v5,h5,hF⟩:=AaH hF;refine Aa6 (Agl k _ _ _ h5) (by simp) [0] [] [0] rfl (.cons (.same (by simp [F8])) (.cons (.same (by simp [F8])) .nil)) (by simp [F8]) (by decide) (by simp) (by simp) (.inl rfl) (by simp) (by simp) ?_;refine TL F8 g r [0,1] [(9,AV.slc 1 0 1 v5.length false)] [] [(1,.cells (List.map (AV.int .u8) v5))] 2 ?_;refine AW.frz 1 (o := .cells (List.map (AV.int .u8) v5)) (by simp [F8]) rfl [(9,Lb v5)] [] ⟨(.l (by simp) (by simp) (by simp) (by simp)),trivial⟩ trivial ?_;refine WK [(2,Iz v2),(8,AV.lst true true (List.map (AV.int .i64) ([] : List Int))),(9,Lb v5)] [] 2 (by simp [F8]) (by simp [F8]) ?_;refine AW.seq fun K1845 hK1845=>?_;refine SW F8 [] [none,none] [2] [(33,Iz v2),(34,Iz 0)] [] [] 2 ?_;refine AW.block ?_;refine AW.own' 8 1 true (by simp [F8]) (by decide) ?_;refine RM h0 [(0,2)] [(8,AV.slc 0 0 1 (([] : List Int).length) false),(9,Lb v5),(33,Iz v2),(34,Iz 0)] [(0,Gi ([] : List Int))] 1 (by simp [F8]) (by simp [F8]) ?_;refine AW.loopF (α:=(Int×(List Int))) (fun n (v6,v7)=>Aau.L1 k v2 v5 n v6 v7=some (v3,v4)) (fun (v6,v7)=>[(8,AV.slc 0 0 1 v7.length false),(9,Lb v5),(33,Iz v2),(34,Iz v6)]) (fun (v6,v7)=>[(0,Gi v7)]) 1 k ((0,([] : List Int))) hF (by simp [F8]) (by simp [F8]) (by simp) ?_;rintro (_|n1) ⟨v6,v7⟩ hF K2297 hK2297
     ·try dsimp only at hF
      rw [Aau.L1] at hF; cases hF
     try dsimp only at hF
     rw [Aau.L1] at hF;refine SW F8 [] [none] [] [(35,AV.bool (decide (v6<v2)))] [] [] 1 ?_;refine AW.seq fun K2299 hK2299=>?_;by_cases h6 : v6<v2
     ·replace hF:=AaN h6 hF;have h6_:=h6;try simp at h6_
      have F9:=A3 F8 h6 h6_;refine CT (by simp [F9] <;> omega) ?_;refine AW.skip ?_;refine hK2299 _ _ _ ?_;refine AW.seq fun K2373 hK2373=>?_;refine AW.block ?_;refine SW F9 [] [none,none] [] [(10,Iz v6)] [] [] 1 ?_;refine SR [] [none,none,none,none,none,none,none,none,none,none,none] fun _ _ g r=>?_;obtain ⟨⟨h7,h8⟩,hF⟩:=AaJ hF;have h7_:=h7;try simp at h7_
      have h8_:=h8;try simp at h8_
      have F10:=A5 F9 h7 h8 h7_ h8_;try simp [F10]
      and_intros
      try any_goals first | omega | (simp [maxLen,F10] <;> omega)
      obtain ⟨v8,h9,hF⟩:=AaH hF;refine AC (Ae7 k _ _ _ h9) (.cons (.same (by simp [F10])) (.cons (Coe.fl (by simp [F10])) .nil)) ?_;try simp [F10]
      and_intros
      try any_goals first | omega | (simp [maxLen,F10] <;> omega)
      obtain ⟨v9,h10,hF⟩:=AaH hF;refine AC (Adk k _ _ h10) (.cons (.same (by simp [F10])) .nil) ?_;refine TL F10 g r [10] [(11,AV.str v9)] [] [] 1 ?_;refine SW F10 [] [none] [] [(12,Iz 0)] [] [] 1 ?_;refine AW.seq fun K2411 hK2411=>?_;refine SW F10 [] [none] [] [(47,Iz 0)] [] [] 1 ?_;refine AW.block ?_;refine AW.loopF (α:=(Int×Int)) (fun n (v10,v11)=>Aau.L2 k v6 v7 v9 (fun v6_ v7_=>Aau.L1 k v2 v5 n1 v6_ v7_) n v10 v11=some (v3,v4)) (fun (v10,v11)=>[(8,AV.slc 0 0 1 v7.length false),(9,Lb v5),(11,AV.str v9),(12,Iz v10),(33,Iz v2),(34,Iz v6),(47,Iz v11)]) (fun (v10,v11)=>[(0,Gi v7)]) 1 k ((0,0)) hF (by simp [F10]) (by simp [F10]) (by simp) ?_;rintro (_|n2) ⟨v10,v11⟩ hF K2437 hK2437
      ·try dsimp only at hF
       rw [Aau.L2] at hF; cases hF
      try dsimp only at hF
      rw [Aau.L2] at hF;refine SW F10 [] [none] [] [(48,AV.bool (decide (v11<4)))] [] [] 1 ?_;refine AW.seq fun K2439 hK2439=>?_;by_cases h11 : v11<4
      ·replace hF:=AaN h11 hF;have h11_:=h11;try simp at h11_
       have F11:=A3 F10 h11 h11_;refine CT (by simp [F11] <;> omega) ?_;refine AW.skip ?_;refine hK2439 _ _ _ ?_;refine AW.seq fun K2442 hK2442=>?_;refine AW.block ?_;refine SW F11 [] [none,none] [] [(13,Iz v11)] [] [] 1 ?_;refine RG [] [none,none,none,none,none,none,none,none] fun _ _ g r=>?_;obtain ⟨v12,h12,h13,h14,hF⟩:=AaM hF;have h14_:=Aaf h14;have h13_:=h13;simp at h13_
       have h12_:=h12;try simp at h12_
       have h14__:=h14_;try simp [bI] at h14__
       have h14b:=AqN h14;try simp at h14b
       have F12:=A8 F11 h12 h12_ h13_ h14 h14_ h14__ h14b;try simp [F12]
       and_intros <;> first | exact GK g | apply r | omega | (simp [maxLen,F12] <;> omega)
       refine hK2442 _ _ _ ?_;refine WK [(8,AV.slc 0 0 1 v7.length false),(9,Lb v5),(11,AV.str v9),(12,Iz (AaF .or .i64 (IntKind.wrap .i64 (v10*2 ^ (8))) (IntKind.wrap .i64 v12))),(33,Iz v2),(34,Iz v6),(47,Iz v11)] [(0,Gi v7)] 1 (by simp [F12]) (by simp [F12]) ?_;refine RG [] [none,none] fun _ _ g r=>?_;try simp [F12]
       and_intros <;> first | exact GK g | apply r | omega | (simp [maxLen,F12] <;> omega)
       refine hK2437 _ _ _ ?_;exact NX (k':=n2) ((AaF .or .i64 (IntKind.wrap .i64 (v10*2 ^ (8))) (IntKind.wrap .i64 v12),IntKind.wrap .i64 (v11+1))) hF (by simp [F12]) (by simp [F12])
      ·replace hF:=AaO h11 hF;have h11_:=h11;try simp at h11_
       have F13:=A3 F10 h11 h11_;refine CF (by simp [F13] <;> omega) ?_;refine AW.exit ?_;try simp
       refine hK2411 _ _ _ ?_;refine RG [] [none,none,none,none,none] fun _ _ g r=>?_;obtain ⟨h15,hF⟩:=AaJ hF;have h15_:=h15;try simp at h15_
       have F14:=A2 F13 h15;try simp [F14]
       and_intros <;> first | exact GK g | apply r | omega | (simp [maxLen,F14] <;> omega)
       refine hK2373 _ _ _ ?_;refine WK [(8,AV.slc 1 0 1 ((v7++([v10] : List Int)).length) false),(9,Lb v5),(33,Iz v2),(34,Iz v6)] [(1,Gi (v7++([v10] : List Int)))] 2 (by simp [F14] <;> omega) (by simp [F14]) ?_;refine RG [] [none,none] fun _ _ g r=>?_;try simp [F14]
       and_intros <;> first | exact GK g | apply r | omega | (simp [maxLen,F14] <;> omega)
       refine hK2297 _ _ _ ?_;refine RN h0 [(0,1)] [(8,AV.slc 0 0 1 ((v7++([v10] : List Int)).length) false),(9,Lb v5),(33,Iz v2),(34,Iz (IntKind.wrap .i64 (v6+1)))] [(0,Gi (v7++([v10] : List Int)))] 1 (by simp [F14] <;> omega) (by simp [F14]) ?_;exact NX (k':=n1) ((IntKind.wrap .i64 (v6+1),v7++([v10] : List Int))) hF (by simp [F14]) (by simp [F14])
     ·replace hF:=AaO h6 hF;have h6_:=h6;try simp at h6_
      have F15:=A3 F8 h6 h6_;refine CF (by simp [F15] <;> omega) ?_;refine AW.exit ?_;try simp
      refine hK1845 _ _ _ ?_;refine SW F15 [] [none,none,none] [8,9,33,34] [(6,AV.slc 0 0 1 v7.length false),(7,Iz 0)] [] [] 1 ?_;simp only [Option.some.injEq,Prod.mk.injEq] at hF;obtain ⟨e0,e1⟩:=hF;subst e0 e1;refine AW.ret (hQ _ _ _ ?_ (AaE ?_)).1
      ·simp [Try.f40,F15]
      ·simp [F15]
theorem Ae6 (k : Nat) (v0 : (List Int)) (v1 : (List Int)) (hF : Aap k v0=some v1) :
 AbA Try.prog 75 [AV.lst true true (List.map (AV.int .u8) ([] : List Int)),AV.lst false false (List.map (AV.int .i64) v0)] [] (AV.slc 0 0 1 v1.length false) [some (.grow (List.map (AV.int .u8) v1))]:=by
 unfold Aap at hF;refine EN Try.func75 ?_;intro c0 w0 Q h0 hQ
 refine WK [(0,AV.lst true true (List.map (AV.int .u8) ([] : List Int))),(1,Lz v0)] [] 0 (by simp) (by simp) ?_;refine SW trivial [] [none] [] [] [] [] 0 ?_;refine AW.seq fun K803 hK803=>?_;refine SW trivial [] [none,none,none] [1] [(8,Lz v0),(9,Iz (v0.length : Int)),(10,Iz 0)] [] [] 0 ?_;refine AW.block ?_;refine AW.own' 0 1 true (by simp) (by decide) ?_;refine AW.loopF (α:=(Int×(List Int))) (fun n (v2,v3)=>Aap.L1 k v0 n v2 v3=some v1) (fun (v2,v3)=>[(0,AV.slc 0 0 1 v3.length false),(8,Lz v0),(9,Iz (v0.length : Int)),(10,Iz v2)]) (fun (v2,v3)=>[(0,.grow (List.map (AV.int .u8) v3))]) 1 k ((0,([] : List Int))) hF (by simp) (by simp) (by simp) ?_;rintro (_|n1) ⟨v2,v3⟩ hF K1003 hK1003
 ·try dsimp only at hF
  rw [Aap.L1] at hF; cases hF
 try dsimp only at hF
 rw [Aap.L1] at hF;refine SW trivial [] [none] [] [(11,AV.bool (decide (v2<(v0.length : Int))))] [] [] 1 ?_;refine AW.seq fun K1005 hK1005=>?_;by_cases h1 : v2<(v0.length : Int)
 ·replace hF:=AaN h1 hF;have h1_:=h1;try simp at h1_
  refine CT (by simp [h1,h1_] <;> omega) ?_;refine AW.skip ?_;refine hK1005 _ _ _ ?_;refine AW.seq fun K1037 hK1037=>?_;refine AW.block ?_;refine SR [] [none,none,none] fun _ _ g r=>?_;obtain ⟨v4,h2,h3,h4,hF⟩:=AaM hF;have h4_:=Aaf h4;try simp at h4_
  have h3_:=h3;try simp at h3_
  have F1:=A7 h1 h1_ h2 h3 h4 h4_ h3_;refine TL F1 g r [] [(6,Iz v4)] [] [] 1 ?_;refine SW F1 [] [none] [] [(7,Iz 56)] [] [] 1 ?_;refine AW.block ?_;refine AW.loopF (α:=(Int×(List Int))) (fun n (v5,v6)=>Aap.L2 k v2 v4 (fun v2_ v3_=>Aap.L1 k v0 n1 v2_ v3_) n v5 v6=some v1) (fun (v5,v6)=>[(0,AV.slc 0 0 1 v6.length false),(6,Iz v4),(7,Iz v5),(8,Lz v0),(9,Iz (v0.length : Int)),(10,Iz v2)]) (fun (v5,v6)=>[(0,.grow (List.map (AV.int .u8) v6))]) 1 k ((56,v3)) hF (by simp [F1]) (by simp [F1]) (by simp) ?_;rintro (_|n2) ⟨v5,v6⟩ hF K1061 hK1061
  ·try dsimp only at hF
   rw [Aap.L2] at hF; cases hF
  try dsimp only at hF
  rw [Aap.L2] at hF;refine AW.seq fun K1063 hK1063=>?_;refine SW F1 [] [none,none] [] [(15,AV.bool (decide (0≤v5)))] [] [] 1 ?_;by_cases h5 : 0≤v5
  ·replace hF:=AaN h5 hF;have h5_:=h5;try simp at h5_
   have F2:=A3 F1 h5 h5_;refine CT (by simp [F2] <;> omega) ?_;refine AW.skip ?_;refine hK1063 _ _ _ ?_;refine AW.seq fun K1066 hK1066=>?_;refine AW.block ?_;refine RG [] [none,none,none,none,none,none,none,none,none] fun _ _ g r=>?_;obtain ⟨h6,hF⟩:=AaJ hF;obtain ⟨h7,hF⟩:=AaJ hF;have h7_:=h7;try simp at h7_
   have F3:=A3 F2 h6 h7;try simp [F3]
   and_intros <;> first | exact GK g | apply r | omega | (simp [maxLen,F3] <;> omega)
   refine hK1066 _ _ _ ?_;refine WK [(0,AV.slc 1 0 1 ((v6++([IntKind.wrap .u8 (Int.fdiv (IntKind.wrap .u64 v4) (2 ^ (min v5.toNat 64)))] : List Int)).length) false),(6,Iz v4),(7,Iz v5),(8,Lz v0),(9,Iz (v0.length : Int)),(10,Iz v2)] [(1,.grow (List.map (AV.int .u8) (v6++([IntKind.wrap .u8 (Int.fdiv (IntKind.wrap .u64 v4) (2 ^ (min v5.toNat 64)))] : List Int))))] 2 (by simp [F3] <;> omega) (by simp [F3]) ?_;refine RG [] [none,none,none] fun _ _ g r=>?_;try simp [F3]
   and_intros <;> first | exact GK g | apply r | omega | (simp [maxLen,F3] <;> omega)
   refine hK1061 _ _ _ ?_;refine RN h0 [(0,1)] [(0,AV.slc 0 0 1 ((v6++([IntKind.wrap .u8 (Int.fdiv (IntKind.wrap .u64 v4) (2 ^ (min v5.toNat 64)))] : List Int)).length) false),(6,Iz v4),(7,Iz (IntKind.wrap .i64 (v5-8))),(8,Lz v0),(9,Iz (v0.length : Int)),(10,Iz v2)] [(0,.grow (List.map (AV.int .u8) (v6++([IntKind.wrap .u8 (Int.fdiv (IntKind.wrap .u64 v4) (2 ^ (min v5.toNat 64)))] : List Int))))] 1 (by simp [F3] <;> omega) (by simp [F3]) ?_;exact NX (k':=n2) ((IntKind.wrap .i64 (v5-8),v6++([IntKind.wrap .u8 (Int.fdiv (IntKind.wrap .u64 v4) (2 ^ (min v5.toNat 64)))] : List Int))) hF (by simp [F3]) (by simp [F3])
  ·replace hF:=AaO h5 hF;have h5_:=h5;try simp at h5_
   have F4:=A3 F1 h5 h5_;refine CF (by simp [F4] <;> omega) ?_;refine AW.exit ?_;try simp
   refine hK1037 _ _ _ ?_;refine RG [] [none,none] fun _ _ g r=>?_;try simp [F4]
   and_intros <;> first | exact GK g | apply r | omega | (simp [maxLen,F4] <;> omega)
   refine hK1003 _ _ _ ?_;exact NX (k':=n1) ((IntKind.wrap .i64 (v2+1),v6)) hF (by simp [F4]) (by simp [F4])
 ·replace hF:=AaO h1 hF;have h1_:=h1;try simp at h1_
  refine CF (by simp [h1,h1_] <;> omega) ?_;refine AW.exit ?_;try simp
  refine hK803 _ _ _ ?_;refine SW (A2 h1 h1_) [] [none,none] [0,8,9,10] [(4,AV.slc 0 0 1 v3.length false)] [] [] 1 ?_;simp only [Option.some.injEq] at hF;subst hF;refine AW.ret (hQ _ _ _ ?_ (AaE ?_)).1
  ·simp [Try.f75,h1,h1_]
  ·simp [h1,h1_]
theorem Adn (k : Nat) (v0 : Int) (v1 : ByteArray) (v2 : ByteArray) (v3 : Int) (hF : Acp k v0 v1=some (v2,v3)) :
 AbA Try.prog 41 [AV.int .i64 v0,AV.str v1] [] (AV.tup [AV.str v2,AV.int .i64 v3]) []:=by
 unfold Acp at hF;refine EN Try.func41 ?_;intro c0 w0 Q h0 hQ
 refine WK [(0,Iz v0),(1,AV.str v1)] [] 0 (by simp) (by simp) ?_;refine SW trivial [] [none,none] [] [] [] [] 0 ?_;refine AW.seq fun K17 hK17=>?_;refine AW.block ?_;obtain ⟨v4,h1,hF⟩:=AaH hF;refine CL trivial [] [none,none,none,none] (Adm k _ _ h1) [] [(6,AV.bool (!v4))] [] [] 0 ?_;by_cases h2 : (!v4)=true
 ·replace hF:=AaN h2 hF;have h2_:=h2;try simp at h2_
  refine CT (by simp [h2,h2_] <;> omega) ?_;refine SW (A2 h2 h2_) [] [none,none] [0,1,6] [(4,AV.str (ByteArray.mk #[])),(5,Iz 2)] [] [] 0 ?_;simp only [Option.some.injEq,Prod.mk.injEq] at hF;obtain ⟨e0,e1⟩:=hF;subst e0 e1;refine AW.ret (hQ _ _ _ ?_ (AaE ?_)).1
  ·simp [Try.f41,h2,h2_]
  ·simp [h2,h2_]
 ·replace hF:=AaO h2 hF;have h2_:=h2;try simp at h2_
  refine CF (by simp [h2,h2_] <;> omega) ?_;refine SW (A2 h2 h2_) [] [none,none,none,none] [6] [(10,AV.bool (decide (64<(v1.size : Int))))] [] [] 0 ?_;by_cases h3 : 64<(v1.size : Int)
  ·replace hF:=AaN h3 hF;have h3_:=h3;try simp at h3_
   have F1:=A4 h2 h2_ h3 h3_;refine CT (by simp [F1] <;> omega) ?_;refine SW F1 [] [none,none] [0,1,10] [(4,AV.str (ByteArray.mk #[])),(5,Iz 3)] [] [] 0 ?_;simp only [Option.some.injEq,Prod.mk.injEq] at hF;obtain ⟨e0,e1⟩:=hF;subst e0 e1;refine AW.ret (hQ _ _ _ ?_ (AaE ?_)).1
   ·simp [Try.f41,F1]
   ·simp [F1]
  ·replace hF:=AaO h3 hF;have h3_:=h3;try simp at h3_
   have F2:=A4 h2 h2_ h3 h3_;refine CF (by simp [F2] <;> omega) ?_;refine AW.skip ?_;refine hK17 _ _ _ ?_;refine SR [] [none,none,none,none,none,none,none,none] fun _ _ g r=>?_;try simp [F2]
   and_intros
   try any_goals first | omega | (simp [maxLen,F2] <;> omega)
   obtain ⟨v5,h4,hF⟩:=AaH hF;refine AC (Ae6 k _ _ h4) (.cons (.same (by simp [F2])) (.cons (Coe.fl (by simp [F2])) .nil)) ?_;obtain ⟨h5,hF⟩:=AaJ hF;have h5_:=h5;try simp at h5_
   have F3:=A2 F2 h5;try simp [F3]
   and_intros
   try any_goals first | omega | (simp [maxLen,F3] <;> omega)
   obtain ⟨v6,h6,hF⟩:=AaH hF;refine Aa6 (Adk k _ _ h6) (by simp) [] [1] [] rfl (.cons (Coe.l (o := .grow (List.map (AV.int .u8) (v5++(bI v1)))) (by simp [F3]) rfl (by simp [F3]) (by simp [Aes]) (by simp [F3]) (by simp [F3])) .nil) (by simp [F3]) (by decide) (by simp) (by simp) (.inr ⟨by simp,by simp⟩) (by simp) (by simp) ?_;refine TL F3 g r [0,1,10] [(4,AV.str v6),(5,Iz 0)] [] [] 2 ?_;simp only [Option.some.injEq,Prod.mk.injEq] at hF;obtain ⟨e0,e1⟩:=hF;subst e0 e1;refine AW.ret (hQ _ _ _ ?_ (AaE ?_)).1
   ·simp [Try.f41,F3]
   ·simp [F3]
theorem AeL (k : Nat) (v0 : ByteArray) (v1 : Int) (v2 : ByteArray) (v3 : Bool) (hF : AdA k v0 v1 v2=some v3) :
 AbA Try.prog 42 [AV.str v0,AV.int .i64 v1,AV.str v2] [] (AV.bool v3) []:=by
 unfold AdA at hF;refine EN Try.func42 ?_;intro c0 w0 Q h0 hQ
 refine WK [(0,AV.str v0),(1,Iz v1),(2,AV.str v2)] [] 0 (by simp) (by simp) ?_;refine SW trivial [] [none] [] [] [] [] 0 ?_;obtain ⟨v4,v5,h1,hF⟩:=Aax hF;refine CL trivial [] [none,none,none,none,none,none,none,none] (Adn k _ _ _ _ h1) [1,2] [(7,AV.str v4),(8,Iz v5)] [] [] 0 ?_;refine SR [] [none,none,none,some (17,true),some (17,true),some (17,true),none,none] fun _ _ g r=>?_;by_cases h2 : v5=0
 ·replace hF:=AaN h2 hF;have h2q : v5=0:=h2;have h2_:=AbY h2q;have h2__:=AbX h2q;have F1:=A3 h2_ h2__ h2q;refine TL F1 g r [0,7,8] [(6,AV.bool (Acj v4 v0))] [] [] 0 ?_;simp only [Option.some.injEq] at hF;subst hF;refine AW.ret (hQ _ _ _ ?_ (AaE ?_)).1
  ·simp [Try.f42,F1]
  ·simp [F1]
 ·replace hF:=AaO h2 hF;have h2_:=AbR h2;have h2__:=AbW h2;have F2:=A3 h2 h2_ h2__;refine TL F2 g r [0,7,8] [(6,AV.bool false)] [] [] 0 ?_;simp only [Option.some.injEq] at hF;subst hF;refine AW.ret (hQ _ _ _ ?_ (AaE ?_)).1
  ·simp [Try.f42,F2]
  ·simp [F2]
theorem Aee (k : Nat) (v0 : Bool) (hF : AcF k=some v0) :
 AbA Try.prog 14 [] [] (AV.bool v0) []:=by
 unfold AcF at hF;refine EN Try.func14 ?_;intro c0 w0 Q h0 hQ
 refine WK [] [] 0 (by simp [-List.reduceReplicate,AaC,AaD,AaA]) (by simp [-List.reduceReplicate,AaC,AaD,AaA]) ?_;refine SQ [] [none] fun _ _ g r=>?_;try simp [-List.reduceReplicate,AaC,AaD,AaA]
 and_intros <;> first | exact GK g | apply r | omega | (simp [-List.reduceReplicate,AaC,AaD,AaA,maxLen] <;> omega)
 refine WK [] [] 0 (by simp [-List.reduceReplicate,AaC,AaD,AaA]) (by simp [-List.reduceReplicate,AaC,AaD,AaA]) ?_;refine SQ [] [none,none,none,none,none,none,none] fun _ _ g r=>?_;try simp [-List.reduceReplicate,AaC,AaD,AaA]
 and_intros
 try any_goals first | omega | (simp [-List.reduceReplicate,AaC,AaD,AaA,maxLen] <;> omega)
 obtain ⟨v1,v2,h1,hF⟩:=Aax hF;refine AC (AhF k _ _ _ _ h1) (.cons (Coe.fl (by simp)) (.cons (.same (by simp)) .nil)) ?_;try simp [-List.reduceReplicate,AaC,AaD,AaA]
 and_intros <;> first | exact GK g | apply r | omega | (simp [-List.reduceReplicate,AaC,AaD,AaA,maxLen] <;> omega)
 refine WK [(1,Iz v1),(2,Iz v2)] [] 0 (by simp [-List.reduceReplicate,AaC,AaD,AaA]) (by simp [-List.reduceReplicate,AaC,AaD,AaA]) ?_;refine SQ [] [none,none,none,none,none,none,none,none] fun _ _ g r=>?_;obtain ⟨h2,hF⟩:=AaJ hF;try simp [-List.reduceReplicate,AaC,AaD,AaA,h2]
 and_intros
 try any_goals first | omega | (simp [-List.reduceReplicate,AaC,AaD,AaA,h2,maxLen] <;> omega)
 obtain ⟨v3,v4,h3,hF⟩:=Aax hF;refine AC (AfN k _ _ _ _ _ h3) (.cons (.same (by simp [-List.reduceReplicate,AaC,AaD,AaA,h2])) (.cons (Coe.fl (by simp [-List.reduceReplicate,AaC,AaD,AaA,h2])) (.cons (.same (by simp [-List.reduceReplicate,AaC,AaD,AaA,h2])) .nil))) ?_;try simp [-List.reduceReplicate,AaC,AaD,AaA,h2]
 and_intros <;> first | exact GK g | apply r | omega | (simp [-List.reduceReplicate,AaC,AaD,AaA,h2,maxLen] <;> omega)
 refine WK [(1,Iz v1),(2,Iz v2),(3,AV.slc 0 0 1 v3.length false),(4,Iz v4)] [(0,Gi v3)] 1 (by simp [-List.reduceReplicate,AaC,AaD,AaA,h2]) (by simp [-List.reduceReplicate,AaC,AaD,AaA,h2]) ?_;refine AW.frz 0 (o:=Gi v3) (by simp [-List.reduceReplicate,AaC,AaD,AaA,h2]) rfl [(3,Lz v3)] [] ⟨(.l (by simp) (by simp) (by simp) (by simp)),trivial⟩ trivial ?_;refine WK [(1,Iz v1),(2,Iz v2),(3,Lz v3),(4,Iz v4)] [] 1 (by simp [-List.reduceReplicate,AaC,AaD,AaA,h2]) (by simp [-List.reduceReplicate,AaC,AaD,AaA,h2]) ?_;refine SQ [] [none,none,none,none,none,none] fun _ _ g r=>?_;try simp [-List.reduceReplicate,AaC,AaD,AaA,h2]
 and_intros
 try any_goals first | omega | (simp [-List.reduceReplicate,AaC,AaD,AaA,h2,maxLen] <;> omega)
 obtain ⟨v5,v6,h4,hF⟩:=Aax hF;refine AC (Adn k _ _ _ _ h4) (.cons (.same (by simp [-List.reduceReplicate,AaC,AaD,AaA,h2])) (.cons (.same (by simp [-List.reduceReplicate,AaC,AaD,AaA,h2])) .nil)) ?_;try simp [-List.reduceReplicate,AaC,AaD,AaA,h2]
 and_intros <;> first | exact GK g | apply r | omega | (simp [-List.reduceReplicate,AaC,AaD,AaA,h2,maxLen] <;> omega)
 refine WK [(1,Iz v1),(2,Iz v2),(3,Lz v3),(4,Iz v4),(5,AV.str v5),(6,Iz v6)] [] 1 (by simp [-List.reduceReplicate,AaC,AaD,AaA,h2]) (by simp [-List.reduceReplicate,AaC,AaD,AaA,h2]) ?_;refine SQ [] [none,none,none,some (24,true),some (24,true),none,none,some (28,true),some (28,true),none,none,some (32,true),some (32,true),none,none,some (36,true),some (36,true),some (36,true),none,none,some (41,true),some (41,true),some (41,true),some (41,true),some (41,true),some (41,true),some (41,true),none,none,some (50,true),some (50,true),none,none,some (54,true),some (54,true),some (54,true),none,none] fun _ _ g r=>?_;by_cases h5 : v2=0
 ·replace hF:=AaN h5 hF;have h5q : v2=0:=h5;have h5_:=AbY h5q;have h5__:=AbX h5q;by_cases h6 : v4=0
  ·replace hF:=AaN h6 hF;have h6q : v4=0:=h6;have h6_:=AbY h6q;have h6__:=AbX h6q;by_cases h7 : v6=0
   ·replace hF:=AaN h7 hF;have h7q : v6=0:=h7;have h7_:=AbY h7q;have h7__:=AbX h7q;by_cases h8 : v1=2
    ·replace hF:=AaN h8 hF;have h8q : v1=2:=h8;have h8_:=AbY h8q;have h8__:=AbX h8q;by_cases h9 : (v3.length : Int)=2
     ·replace hF:=AaN h9 hF;have h9q : (v3.length : Int)=2:=h9;have h9_:=AbY h9q;have h9__:=AbX h9q;obtain ⟨v7,h10,h11,h12,hF⟩:=AaM hF;have h12_:=Aaf h12;try simp [-List.reduceReplicate] at h12_
      have h11_:=h11;try simp [-List.reduceReplicate] at h11_
      have h12z:=Afv h12;obtain ⟨v8,h13,h14,h15,hF⟩:=AaM hF;have h15_:=Aaf h15;try simp [-List.reduceReplicate] at h15_
      have h14_:=h14;try simp [-List.reduceReplicate] at h14_
      by_cases h16 : v7≠v8
      ·replace hF:=AaN h16 hF;have h16_:=AbR h16;have h16__:=AbW h16;have F1:=A9 h2 h5_ h5__ h5q h6_ h6__ h6q h7_ (A9 h7__ h7q h8_ h8__ h8q h9_ h9__ h9q (A9 h10 h11 h12 h12_ h11_ h12z h13 h14 (A6 h15 h15_ h14_ h16 h16_ h16__)));try simp [-List.reduceReplicate,AaC,AaD,AaA,F1]
       and_intros
       try any_goals first | omega | (simp [-List.reduceReplicate,AaC,AaD,AaA,maxLen,F1] <;> omega)
       obtain ⟨v9,h17,hF⟩:=AaH hF;refine AC (AeL k _ _ _ _ h17) (.cons (.same (by simp [-List.reduceReplicate,AaC,AaD,AaA,F1])) (.cons (.same (by simp [-List.reduceReplicate,AaC,AaD,AaA,F1])) (.cons (.same (by simp [-List.reduceReplicate,AaC,AaD,AaA,F1])) .nil))) ?_;by_cases h18 : v9=true
       ·replace hF:=AaN h18 hF;have h18_:=h18;try simp [-List.reduceReplicate] at h18_
        have F2:=A3 F1 h18 h18_;try simp [-List.reduceReplicate,AaC,AaD,AaA,F2]
        and_intros
        try any_goals first | omega | (simp [-List.reduceReplicate,AaC,AaD,AaA,maxLen,F2] <;> omega)
        obtain ⟨v10,h19,hF⟩:=AaH hF;refine AC (AeL k _ _ _ _ h19) (.cons (.same (by simp [-List.reduceReplicate,AaC,AaD,AaA,F2])) (.cons (.same (by simp [-List.reduceReplicate,AaC,AaD,AaA,F2])) (.cons (.same (by simp [-List.reduceReplicate,AaC,AaD,AaA,F2])) .nil))) ?_;try simp [-List.reduceReplicate,AaC,AaD,AaA,F2]
        and_intros <;> first | exact GK g | apply r | omega | (simp [-List.reduceReplicate,AaC,AaD,AaA,maxLen,F2] <;> omega)
        refine WK [(0,AV.bool (!v10))] [] 1 (by simp [-List.reduceReplicate,AaC,AaD,AaA,F2]) (by simp [-List.reduceReplicate,AaC,AaD,AaA,F2]) ?_;simp only [Option.some.injEq] at hF;subst hF;refine AW.ret (hQ _ _ _ ?_ (AaE ?_)).1
        ·simp [Try.f14,F2]
        ·simp [F2]
       ·replace hF:=AaO h18 hF;have h18_:=h18;try simp [-List.reduceReplicate] at h18_
        have F3:=A3 F1 h18 h18_;try simp [-List.reduceReplicate,AaC,AaD,AaA,F3]
        and_intros <;> first | exact GK g | apply r | omega | (simp [-List.reduceReplicate,AaC,AaD,AaA,maxLen,F3] <;> omega)
        refine WK [(0,AV.bool false)] [] 1 (by simp [-List.reduceReplicate,AaC,AaD,AaA,F3]) (by simp [-List.reduceReplicate,AaC,AaD,AaA,F3]) ?_;simp only [Option.some.injEq] at hF;subst hF;refine AW.ret (hQ _ _ _ ?_ (AaE ?_)).1
        ·simp [Try.f14,F3]
        ·simp [F3]
      ·replace hF:=AaO h16 hF;have h16q : v7=v8:=Classical.not_not.1 h16;have h16_:=AbY h16q;have h16__:=AbX h16q;have F4:=A9 h2 h5_ h5__ h5q h6_ h6__ h6q h7_ (A9 h7__ h7q h8_ h8__ h8q h9_ h9__ h9q (A9 h10 h11 h12 h12_ h11_ h12z h13 h14 (A5 h15 h15_ h14_ h16_ h16__)));try simp [-List.reduceReplicate,AaC,AaD,AaA,F4]
       and_intros <;> first | exact GK g | apply r | omega | (simp [-List.reduceReplicate,AaC,AaD,AaA,maxLen,F4] <;> omega)
       refine WK [(0,AV.bool false)] [] 1 (by simp [-List.reduceReplicate,AaC,AaD,AaA,F4]) (by simp [-List.reduceReplicate,AaC,AaD,AaA,F4]) ?_;simp only [Option.some.injEq] at hF;subst hF;refine AW.ret (hQ _ _ _ ?_ (AaE ?_)).1
       ·simp [Try.f14,F4]
       ·simp [F4]
     ·replace hF:=AaO h9 hF;have h9_:=AbR h9;have h9__:=AbW h9;have F5:=A9 h2 h5_ h5__ h5q h6_ h6__ h6q h7_ (A8 h7__ h7q h8_ h8__ h8q h9 h9_ h9__);try simp [-List.reduceReplicate,AaC,AaD,AaA,F5]
      and_intros <;> first | exact GK g | apply r | omega | (simp [-List.reduceReplicate,AaC,AaD,AaA,maxLen,F5] <;> omega)
      refine WK [(0,AV.bool false)] [] 1 (by simp [-List.reduceReplicate,AaC,AaD,AaA,F5]) (by simp [-List.reduceReplicate,AaC,AaD,AaA,F5]) ?_;simp only [Option.some.injEq] at hF;subst hF;refine AW.ret (hQ _ _ _ ?_ (AaE ?_)).1
      ·simp [Try.f14,F5]
      ·simp [F5]
    ·replace hF:=AaO h8 hF;have h8_:=AbR h8;have h8__:=AbW h8;have F6:=A9 h2 h5_ h5__ h5q h6_ h6__ h6q h7_ (A5 h7__ h7q h8 h8_ h8__);try simp [-List.reduceReplicate,AaC,AaD,AaA,F6]
     and_intros <;> first | exact GK g | apply r | omega | (simp [-List.reduceReplicate,AaC,AaD,AaA,maxLen,F6] <;> omega)
     refine WK [(0,AV.bool false)] [] 1 (by simp [-List.reduceReplicate,AaC,AaD,AaA,F6]) (by simp [-List.reduceReplicate,AaC,AaD,AaA,F6]) ?_;simp only [Option.some.injEq] at hF;subst hF;refine AW.ret (hQ _ _ _ ?_ (AaE ?_)).1
     ·simp [Try.f14,F6]
     ·simp [F6]
   ·replace hF:=AaO h7 hF;have h7_:=AbR h7;have h7__:=AbW h7;have F7:=A9 h2 h5_ h5__ h5q h6_ h6__ h6q h7 (A2 h7_ h7__);try simp [-List.reduceReplicate,AaC,AaD,AaA,F7]
    and_intros <;> first | exact GK g | apply r | omega | (simp [-List.reduceReplicate,AaC,AaD,AaA,maxLen,F7] <;> omega)
    refine WK [(0,AV.bool false)] [] 1 (by simp [-List.reduceReplicate,AaC,AaD,AaA,F7]) (by simp [-List.reduceReplicate,AaC,AaD,AaA,F7]) ?_;simp only [Option.some.injEq] at hF;subst hF;refine AW.ret (hQ _ _ _ ?_ (AaE ?_)).1
    ·simp [Try.f14,F7]
    ·simp [F7]
  ·replace hF:=AaO h6 hF;have h6_:=AbR h6;have h6__:=AbW h6;have F8:=A7 h2 h5_ h5__ h5q h6 h6_ h6__;try simp [-List.reduceReplicate,AaC,AaD,AaA,F8]
   and_intros <;> first | exact GK g | apply r | omega | (simp [-List.reduceReplicate,AaC,AaD,AaA,maxLen,F8] <;> omega)
   refine WK [(0,AV.bool false)] [] 1 (by simp [-List.reduceReplicate,AaC,AaD,AaA,F8]) (by simp [-List.reduceReplicate,AaC,AaD,AaA,F8]) ?_;simp only [Option.some.injEq] at hF;subst hF;refine AW.ret (hQ _ _ _ ?_ (AaE ?_)).1
   ·simp [Try.f14,F8]
   ·simp [F8]
 ·replace hF:=AaO h5 hF;have h5_:=AbR h5;have h5__:=AbW h5;have F9:=A4 h2 h5 h5_ h5__;try simp [-List.reduceReplicate,AaC,AaD,AaA,F9]
  and_intros <;> first | exact GK g | apply r | omega | (simp [-List.reduceReplicate,AaC,AaD,AaA,maxLen,F9] <;> omega)
  refine WK [(0,AV.bool false)] [] 1 (by simp [-List.reduceReplicate,AaC,AaD,AaA,F9]) (by simp [-List.reduceReplicate,AaC,AaD,AaA,F9]) ?_;simp only [Option.some.injEq] at hF;subst hF;refine AW.ret (hQ _ _ _ ?_ (AaE ?_)).1
  ·simp [Try.f14,F9]
  ·simp [F9]
theorem Ah2 (k : Nat) (v0 : (List Int)) (v1 : (List Int)) (v2 : Int) (hF : Aft k v0=some (v1,v2)) :
 AbA Try.prog 24 [AV.lst false false (List.map (AV.int .i64) v0)] [] (AV.ptr 0 0) [some (.cells [AV.lst false false (List.map (AV.int .i64) v1),AV.int .i64 v2])]:=by
 unfold Aft at hF;refine EN Try.func24 ?_;intro c0 w0 Q h0 hQ
 refine WK [(0,Lz v0)] [] 0 (by simp) (by simp) ?_;refine SW trivial [] [none] [] [] [] [] 0 ?_;refine SW trivial [] [none,none,none,none] [0] [(2,AV.ptr 0 0)] [] [(0,.cells [Lz v0,Iz 0])] 1 ?_;simp only [Option.some.injEq,Prod.mk.injEq] at hF;obtain ⟨e0,e1⟩:=hF;subst e0 e1;refine AW.ret (hQ _ _ _ ?_ (AaE ?_)).1
 ·simp [Try.f24]
 ·simp
theorem Ah1 (k : Nat) (v0 : (List Int)) (v1 : (List Int)) (v2 : Int) (hF : Aet k v0=some (v1,v2)) :
 AbA Try.prog 9 [AV.lst false false (List.map (AV.int .i64) v0)] [] (AV.ptr 0 0) [some (.cells [AV.lst false false (List.map (AV.int .i64) v1),AV.int .i64 v2])]:=by
 unfold Aet at hF;refine EN Try.func9 ?_;intro c0 w0 Q h0 hQ
 refine WK [(0,Lz v0)] [] 0 (by simp) (by simp) ?_;refine SW trivial [] [none] [] [] [] [] 0 ?_;obtain ⟨v3,v4,h1,hF⟩:=Aax hF;refine CL trivial [] [none,none,none] (Ah2 k _ _ _ h1) [0] [(2,AV.ptr 0 0)] [] [(0,.cells [Lz v3,Iz v4])] 1 ?_;simp only [Option.some.injEq,Prod.mk.injEq] at hF;obtain ⟨e0,e1⟩:=hF;subst e0 e1;refine AW.ret (hQ _ _ _ ?_ (AaE ?_)).1
 ·simp [Try.f9]
 ·simp
theorem Ai6 (k : Nat) (v0 : Int) (v1 : Int) (v2 : Int) (hF : AcM k v0 v1=some v2) :
 AbA Try.prog 30 [AV.int .i64 v0,AV.int .i64 v1] [] (AV.int .i64 v2) []:=by
 unfold AcM at hF;refine EN Try.func30 ?_;intro c0 w0 Q h0 hQ
 refine WK [(0,Iz v0),(1,Iz v1)] [] 0 (by simp) (by simp) ?_;refine SW trivial [] [none] [] [] [] [] 0 ?_;refine AW.seq fun K17 hK17=>?_;refine SW trivial [] [none,none] [] [(6,AV.bool (decide (v1<1)))] [] [] 0 ?_;by_cases h1 : v1<1
 ·replace hF:=AaN h1 hF;have h1_:=h1;try simp at h1_
  refine CT (by simp [h1,h1_] <;> omega) ?_;refine SW (A2 h1 h1_) [] [none] [0,1,6] [(4,Iz 0)] [] [] 0 ?_;simp only [Option.some.injEq] at hF;subst hF;refine AW.ret (hQ _ _ _ ?_ (AaE ?_)).1
  ·simp [Try.f30,h1,h1_]
  ·simp [h1,h1_]
 ·replace hF:=AaO h1 hF;have h1_:=h1;try simp at h1_
  refine CF (by simp [h1,h1_] <;> omega) ?_;refine AW.skip ?_;refine hK17 _ _ _ ?_;refine SR [] [none,none,none,none] fun _ _ g r=>?_;obtain ⟨h2,hF⟩:=AaJ hF;have h2_:=h2;try simp at h2_
  have F1:=A4 h1 h1_ h2 h2_;refine TL F1 g r [0,6] [(0,Iz (Int.tmod v0 v1))] [] [] 0 ?_;refine AW.midF (α:=Int) (fun v3=>AcM.J1 k v3=some v2) (fun v3=>[(0,Iz v3)]) (fun v3=>[]) 0 (fun K24 hK24=>?_) ?_
  ·refine SW F1 [] [none,none] [] [(11,AV.bool (decide (Int.tmod v0 v1<0)))] [] [] 0 ?_;by_cases h3 : Int.tmod v0 v1<0
   ·replace hF:=AaN h3 hF;have h3_:=h3;try simp at h3_
    have F2:=A3 F1 h3 h3_;refine CT (by simp [F2] <;> omega) ?_;refine RG [] [none,none,none,none] fun _ _ g r=>?_;try simp [F2]
    and_intros <;> first | exact GK g | apply r | omega | (simp [maxLen,F2] <;> omega)
    refine hK24 _ _ _ ?_;exact JN (IntKind.wrap .i64 (Int.tmod v0 v1+v1)) hF (by simp [F2]) (by simp [F2])
   ·replace hF:=AaO h3 hF;have h3_:=h3;try simp at h3_
    have F3:=A3 F1 h3 h3_;refine CF (by simp [F3] <;> omega) ?_;refine AW.skip ?_;refine hK24 _ _ _ ?_;exact JN (Int.tmod v0 v1) hF (by simp [F3]) (by simp [F3])
  ·rintro v3 hF
   try dsimp only at hF
   unfold AcM.J1 at hF;refine SW F1 [] [none,none] [0] [(4,Iz v3)] [] [] 0 ?_;simp only [Option.some.injEq] at hF;subst hF;refine AW.ret (hQ _ _ _ ?_ (AaE ?_)).1
   ·simp [Try.f30,F1]
   ·simp [F1]
theorem AbV (k : Nat) (v0 : (List Int)) (v1 : Int) (v2 : Int) (v3 : Int) (v4 : Int) (hF : AbF k v0 v1 v2=some (v3,v4)) :
 AbA Try.prog 26 [AV.ptr 0 0,AV.int .i64 v2] [.cells [AV.lst false false (List.map (AV.int .i64) v0),AV.int .i64 v1]] (AV.int .i64 v3) [some (.cells [AV.lst false false (List.map (AV.int .i64) v0),AV.int .i64 v4])]:=by
 unfold AbF at hF;refine EN Try.func26 ?_;intro c0 w0 Q h0 hQ
 refine WK [(0,AV.ptr 0 0),(1,Iz v2)] [(0,.cells [Lz v0,Iz v1])] 1 (by simp) (by simp) ?_;refine SW trivial [] [none] [] [] [] [] 1 ?_;refine AW.seq fun K12 hK12=>?_;refine SW trivial [] [none,none,none,none,none,none,none,none,none,none] [] [(14,AV.bool (decide ((v0.length : Int)≤v1)))] [] [] 1 ?_;by_cases h1 : (v0.length : Int)≤v1
 ·replace hF:=AaN h1 hF;have h1_:=h1;try simp at h1_
  refine CT (by simp [h1,h1_] <;> omega) ?_;refine SW (A2 h1 h1_) [] [none] [0,1,14] [(4,Iz 0)] [] [] 1 ?_;simp only [Option.some.injEq,Prod.mk.injEq] at hF;obtain ⟨e0,e1⟩:=hF;subst e0 e1;refine AW.ret (hQ _ _ _ ?_ (AaE ?_)).1
  ·simp [Try.f26,h1,h1_]
  ·simp [h1,h1_]
 ·replace hF:=AaO h1 hF;have h1_:=h1;try simp at h1_
  refine CF (by simp [h1,h1_] <;> omega) ?_;refine AW.skip ?_;refine hK12 _ _ _ ?_;refine SW (A2 h1 h1_) [] [none,none,none,none,none,none,none,none] [14] [] [0] [(0,.cells [Lz v0,Iz (IntKind.wrap .i64 (v1+1))])] 1 ?_;refine SR [] [none,none,none,none,none,none,none,none,none,none,none,none,none,none] fun _ _ g r=>?_;obtain ⟨v5,h2,h3,h4,hF⟩:=AaM hF;have h4_:=Aaf h4;try simp at h4_
  have h3_:=h3;try simp at h3_
  have F1:=A7 h1 h1_ h2 h3 h4 h4_ h3_;try simp [F1]
  and_intros
  try any_goals first | omega | (simp [maxLen,F1] <;> omega)
  obtain ⟨v6,h5,hF⟩:=AaH hF;refine AC (Ai6 k _ _ _ h5) (.cons (.same (by simp [F1])) (.cons (.same (by simp [F1])) .nil)) ?_;refine TL F1 g r [0,1] [(4,Iz v6)] [] [] 1 ?_;simp only [Option.some.injEq,Prod.mk.injEq] at hF;obtain ⟨e0,e1⟩:=hF;subst e0 e1;refine AW.ret (hQ _ _ _ ?_ (AaE ?_)).1
  ·simp [Try.f26,F1]
  ·simp [F1]
theorem AbL (k : Nat) (v0 : (List Int)) (v1 : Int) (v2 : (List Int)) (v3 : Int) (v4 : Int) (hF : AbC k v0 v1 v2=some (v3,v4)) :
 AbA Try.prog 28 [AV.ptr 0 0,AV.lst false false (List.map (AV.int .i64) v2)] [.cells [AV.lst false false (List.map (AV.int .i64) v0),AV.int .i64 v1]] (AV.int .i64 v3) [some (.cells [AV.lst false false (List.map (AV.int .i64) v0),AV.int .i64 v4])]:=by
 unfold AbC at hF;refine EN Try.func28 ?_;intro c0 w0 Q h0 hQ
 refine WK [(0,AV.ptr 0 0),(1,Lz v2)] [(0,.cells [Lz v0,Iz v1])] 1 (by simp) (by simp) ?_;refine SW trivial [] [none] [] [] [] [] 1 ?_;refine SR [] [none,none,none,none,none,none,none,none] fun _ _ g r=>?_;try simp
 and_intros
 try any_goals first | omega | (simp [maxLen] <;> omega)
 obtain ⟨v5,v6,h1,hF⟩:=Aax hF;refine Aa6 (AbV k _ _ _ _ _ h1) (by simp) [0] [] [0] rfl (.cons (.same (by simp)) (.cons (.same (by simp)) .nil)) (by simp) (by decide) (by simp) (by simp) (.inl rfl) (by simp) (by simp) ?_;obtain ⟨v7,h2,h3,h4,hF⟩:=AaM hF;have h4_:=Aaf h4;try simp at h4_
 have h3_:=h3;try simp at h3_
 have F1:=A5 h2 h3 h4 h4_ h3_;refine TL F1 g r [0,1] [(4,Iz v7)] [0] [(0,.cells [Lz v0,Iz v6])] 1 ?_;simp only [Option.some.injEq,Prod.mk.injEq] at hF;obtain ⟨e0,e1⟩:=hF;subst e0 e1;refine AW.ret (hQ _ _ _ ?_ (AaE ?_)).1
 ·simp [Try.f28,F1]
 ·simp [F1]
theorem Afc (k : Nat) (v0 : (List Int)) (v1 : Int) (v2 : Int) (v3 : Bool) (v4 : Int) (hF : AcN k v0 v1 v2=some (v3,v4)) :
 AbA Try.prog 34 [AV.ptr 0 0,AV.int .i64 v2] [.cells [AV.lst false false (List.map (AV.int .i64) v0),AV.int .i64 v1]] (AV.bool v3) [some (.cells [AV.lst false false (List.map (AV.int .i64) v0),AV.int .i64 v4])]:=by
 unfold AcN at hF;refine EN Try.func34 ?_;intro c0 w0 Q h0 hQ
 refine WK [(0,AV.ptr 0 0),(1,Iz v2)] [(0,.cells [Lz v0,Iz v1])] 1 (by simp) (by simp) ?_;refine SW trivial [] [none] [] [] [] [] 1 ?_;refine SR [] [none,none,none,none,none,none,none] fun _ _ g r=>?_;try simp
 and_intros
 try any_goals first | omega | (simp [maxLen] <;> omega)
 obtain ⟨v5,v6,h1,hF⟩:=Aax hF;refine Aa6 (AbV k _ _ _ _ _ h1) (by simp) [0] [] [0] rfl (.cons (.same (by simp)) (.cons (.same (by simp)) .nil)) (by simp) (by decide) (by simp) (by simp) (.inl rfl) (by simp) (by simp) ?_;refine TL trivial g r [0,1] [(4,AV.bool (v5==(IntKind.wrap .i64 (v2-1))))] [0] [(0,.cells [Lz v0,Iz v6])] 1 ?_;simp only [Option.some.injEq,Prod.mk.injEq] at hF;obtain ⟨e0,e1⟩:=hF;subst e0 e1;refine AW.ret (hQ _ _ _ ?_ (AaE ?_)).1
 ·simp [Try.f34]
 ·simp
abbrev Ad2  : Aaj := .cells [AV.lst true true (List.map (AV.int .i64) ([] : List Int)),AV.lst true true (List.map (AV.int .i64) ([] : List Int)),AV.lst true true (List.map (AV.int .i64) ([] : List Int)),Iz 0,Iz 0,Iz 0,Iz 0]
theorem AfI (k : Nat) (v0 : (List Int)) (v1 : Int) (v2 : (List Int)) (v3 : (List Int)) (v4 : (List Int)) (v5 : Int) (v6 : Int) (v7 : Int) (v8 : Int) (v9 : Int) (hF : AbS k v0 v1=some (v2,v3,v4,v5,v6,v7,v8,v9)) :
 AbA Try.prog 10 [AV.ptr 0 0] [.cells [AV.lst false false (List.map (AV.int .i64) v0),AV.int .i64 v1]] (AV.agg [AV.lst false false (List.map (AV.int .i64) v2),AV.lst false false (List.map (AV.int .i64) v3),AV.slc 1 0 1 v4.length false,AV.int .i64 v5,AV.int .i64 v6,AV.int .i64 v7,AV.int .i64 v8]) [some (.cells [AV.lst false false (List.map (AV.int .i64) v0),AV.int .i64 v9]),some (Ci v4)]:=by
 unfold AbS at hF;refine EN Try.func10 ?_;intro c0 w0 Q h0 hQ
 refine WK [(0,AV.ptr 0 0)] [(0,.cells [Lz v0,Iz v1])] 1 (by simp) (by simp) ?_;refine SW trivial [] [none] [] [(2,AV.ptr 1 0)] [] [(1,Ad2 )] 2 ?_;refine SR [] [none,none,none,none,none,none,none,none,none,none,none,none] fun _ _ g r=>?_;try simp
 and_intros
 try any_goals first | omega | (simp [maxLen] <;> omega)
 obtain ⟨v10,v11,h1,hF⟩:=Aax hF;refine Aa6 (AbL k _ _ _ _ _ h1) (by simp) [0] [] [0] rfl (.cons (.same (by simp)) (.cons (Coe.fl (by simp)) .nil)) (by simp) (by decide) (by simp) (by simp) (.inl rfl) (by simp) (by simp) ?_;try simp
 and_intros
 try any_goals first | omega | (simp [maxLen] <;> omega)
 obtain ⟨v12,v13,h2,hF⟩:=Aax hF;refine Aa6 (AbL k _ _ _ _ _ h2) (by simp) [0] [] [0] rfl (.cons (.same (by simp)) (.cons (Coe.fl (by simp)) .nil)) (by simp) (by decide) (by simp) (by simp) (.inl rfl) (by simp) (by simp) ?_;try simp
 and_intros
 try any_goals first | omega | (simp [maxLen] <;> omega)
 obtain ⟨v14,v15,h3,hF⟩:=Aax hF;refine Aa6 (AbL k _ _ _ _ _ h3) (by simp) [0] [] [0] rfl (.cons (.same (by simp)) (.cons (Coe.fl (by simp)) .nil)) (by simp) (by decide) (by simp) (by simp) (.inl rfl) (by simp) (by simp) ?_;refine TL trivial g r [] [(3,AV.ptr 2 0)] [0] [(0,.cells [Lz v0,Iz v15]),(2,.cells [AV.lst true true (List.map (AV.int .i64) ([] : List Int)),AV.lst true true (List.map (AV.int .i64) ([] : List Int)),AV.lst true true (List.map (AV.int .i64) ([] : List Int)),Iz 0,Iz v10,Iz v12,Iz v14])] 3 ?_;refine SR [] [none,none,none,none,none,none,none] fun _ _ g r=>?_;try simp
 and_intros
 try any_goals first | omega | (simp [maxLen] <;> omega)
 obtain ⟨v16,v17,h4,hF⟩:=Aax hF;refine Aa6 (AbV k _ _ _ _ _ h4) (by simp) [0] [] [0] rfl (.cons (.same (by simp)) (.cons (.same (by simp)) .nil)) (by simp) (by decide) (by simp) (by simp) (.inl rfl) (by simp) (by simp) ?_;obtain ⟨⟨h5,h6⟩,hF⟩:=AaJ hF;have h5_:=h5;try simp at h5_
 have h6_:=h6;try simp at h6_
 have F1:=A4 h5 h6 h5_ h6_;refine TL F1 g r [] [] [0,2] [(0,.cells [Lz v0,Iz v17]),(2,.cells [Lz (([0,1,2,3,4,5,6] : List Int).take (IntKind.wrap .i64 (2+v16)).toNat),AV.lst true true (List.map (AV.int .i64) ([] : List Int)),AV.lst true true (List.map (AV.int .i64) ([] : List Int)),Iz 0,Iz v10,Iz v12,Iz v14])] 3 ?_;refine SR [29] [none,none,none,none,none,none,none,none,none,none,none,none,none,none,none,none] fun _ _ g r=>?_;try simp [F1]
 and_intros
 try any_goals first | omega | (simp [maxLen,F1] <;> omega)
 obtain ⟨v18,v19,h7,hF⟩:=Aax hF;refine Aa6 (AbL k _ _ _ _ _ h7) (by simp) [0] [] [0] rfl (.cons (.same (by simp [F1])) (.cons (Coe.fl (by simp [F1])) .nil)) (by simp [F1]) (by decide) (by simp) (by simp) (.inl rfl) (by simp) (by simp) ?_;try simp [F1]
 and_intros
 try any_goals first | omega | (simp [maxLen,F1] <;> omega)
 obtain ⟨v20,v21,h8,hF⟩:=Aax hF;refine Aa6 (AbL k _ _ _ _ _ h8) (by simp) [0] [] [0] rfl (.cons (.same (by simp [F1])) (.cons (Coe.fl (by simp [F1])) .nil)) (by simp [F1]) (by decide) (by simp) (by simp) (.inl rfl) (by simp) (by simp) ?_;try simp [F1]
 and_intros
 try any_goals first | omega | (simp [maxLen,F1] <;> omega)
 obtain ⟨v22,v23,h9,hF⟩:=Aax hF;refine Aa6 (AbL k _ _ _ _ _ h9) (by simp) [0] [] [0] rfl (.cons (.same (by simp [F1])) (.cons (Coe.fl (by simp [F1])) .nil)) (by simp [F1]) (by decide) (by simp) (by simp) (.inl rfl) (by simp) (by simp) ?_;refine TL F1 g r [] [] [0,2] [(0,.cells [Lz v0,Iz v23]),(2,.cells [Lz (([0,1,2,3,4,5,6] : List Int).take (IntKind.wrap .i64 (2+v16)).toNat),AV.lst false true (List.map (AV.int .i64) ([0] : List Int)),AV.slc 3 0 1 (([IntKind.wrap .i64 (1+v18),IntKind.wrap .i64 (1+v20)] : List Int).length) true,Iz v22,Iz v10,Iz v12,Iz v14]),(3,Ci ([IntKind.wrap .i64 (1+v18),IntKind.wrap .i64 (1+v20)] : List Int))] 4 ?_;refine AW.midF (α:=((List Int)×Int)) (fun (v24,v25)=>AbS.J1 k v10 v12 v14 v16 v18 v20 v22 v24 v25=some (v2,v3,v4,v5,v6,v7,v8,v9)) (fun (v24,v25)=>[(2,AV.ptr 1 0),(3,AV.ptr 2 0)]) (fun (v24,v25)=>[(0,.cells [Lz v0,Iz v25]),(1,Ad2 ),(2,.cells [Lz (([0,1,2,3,4,5,6] : List Int).take (IntKind.wrap .i64 (2+v16)).toNat),Lz v24,AV.slc 3 0 1 (([IntKind.wrap .i64 (1+v18),IntKind.wrap .i64 (1+v20)] : List Int).length) true,Iz v22,Iz v10,Iz v12,Iz v14]),(3,Ci ([IntKind.wrap .i64 (1+v18),IntKind.wrap .i64 (1+v20)] : List Int))]) 4 (fun K20 hK20=>?_) ?_
 ·refine SR [] [none,none] fun _ _ g r=>?_;try simp [F1]
  and_intros
  try any_goals first | omega | (simp [maxLen,F1] <;> omega)
  obtain ⟨v29,v30,h23,hF⟩:=Aax hF;refine Aa6 (Afc k _ _ _ _ _ h23) (by simp) [0] [] [0] rfl (.cons (.same (by simp [F1])) (.cons (.same (by simp [F1])) .nil)) (by simp [F1]) (by decide) (by simp) (by simp) (.inl rfl) (by simp) (by simp) ?_;refine TL F1 g r [0] [(36,AV.bool v29)] [0] [(0,.cells [Lz v0,Iz v30])] 4 ?_;by_cases h24 : v29=true
  ·replace hF:=AaN h24 hF;have h24_:=h24;try simp at h24_
   have F2:=A3 F1 h24 h24_;refine CT (by simp [F2] <;> omega) ?_;refine RG [] [none,none,none,none] fun _ _ g r=>?_;try simp [F2]
   and_intros <;> first | exact GK g | apply r | omega | (simp [maxLen,F2] <;> omega)
   refine hK20 _ _ _ ?_;refine Can.weak [(2,AV.ptr 1 0),(3,AV.ptr 2 0)] [(0,.cells [Lz v0,Iz v30]),(1,Ad2 ),(2,.cells [Lz (([0,1,2,3,4,5,6] : List Int).take (IntKind.wrap .i64 (2+v16)).toNat),AV.lst false true (List.map (AV.int .i64) ([0,1] : List Int)),AV.slc 3 0 1 (([IntKind.wrap .i64 (1+v18),IntKind.wrap .i64 (1+v20)] : List Int).length) true,Iz v22,Iz v10,Iz v12,Iz v14]),(3,Ci ([IntKind.wrap .i64 (1+v18),IntKind.wrap .i64 (1+v20)] : List Int))] 4 (by simp [F2]) (by simp [F2]) (by simp) ?_;refine Can.flg [] [(2,.cells [Lz (([0,1,2,3,4,5,6] : List Int).take (IntKind.wrap .i64 (2+v16)).toNat),Lz ([0,1] : List Int),AV.slc 3 0 1 (([IntKind.wrap .i64 (1+v18),IntKind.wrap .i64 (1+v20)] : List Int).length) true,Iz v22,Iz v10,Iz v12,Iz v14])] trivial ⟨⟨Aaj.cells [Lz (([0,1,2,3,4,5,6] : List Int).take (IntKind.wrap .i64 (2+v16)).toNat),AV.lst false true (List.map (AV.int .i64) ([0,1] : List Int)),AV.slc 3 0 1 (([IntKind.wrap .i64 (1+v18),IntKind.wrap .i64 (1+v20)] : List Int).length) true,Iz v22,Iz v10,Iz v12,Iz v14],by simp [F2],(.mk (.cons (.same _) (.cons (.lst (by simp)) (.cons (.same _) (.cons (.same _) (.cons (.same _) (.cons (.same _) (.cons (.same _) .nil))))))))⟩,trivial⟩ (by simp) ?_;exact JN ((([0,1] : List Int),v30)) hF (by simp [F2]) (by simp [F2])
  ·replace hF:=AaO h24 hF;have h24_:=h24;try simp at h24_
   have F3:=A3 F1 h24 h24_;refine CF (by simp [F3] <;> omega) ?_;refine AW.skip ?_;refine hK20 _ _ _ ?_;refine Can.flg [] [(2,.cells [Lz (([0,1,2,3,4,5,6] : List Int).take (IntKind.wrap .i64 (2+v16)).toNat),Lz ([0] : List Int),AV.slc 3 0 1 (([IntKind.wrap .i64 (1+v18),IntKind.wrap .i64 (1+v20)] : List Int).length) true,Iz v22,Iz v10,Iz v12,Iz v14])] trivial ⟨⟨Aaj.cells [Lz (([0,1,2,3,4,5,6] : List Int).take (IntKind.wrap .i64 (2+v16)).toNat),AV.lst false true (List.map (AV.int .i64) ([0] : List Int)),AV.slc 3 0 1 (([IntKind.wrap .i64 (1+v18),IntKind.wrap .i64 (1+v20)] : List Int).length) true,Iz v22,Iz v10,Iz v12,Iz v14],by simp [F3],(.mk (.cons (.same _) (.cons (.lst (by simp)) (.cons (.same _) (.cons (.same _) (.cons (.same _) (.cons (.same _) (.cons (.same _) .nil))))))))⟩,trivial⟩ (by simp) ?_;exact JN ((([0] : List Int),v30)) hF (by simp [F3]) (by simp [F3])
 ·rintro ⟨v24,v25⟩ hF
  try dsimp only at hF
  unfold AbS.J1 at hF;refine SR [] [none,none,none,none,none,none,none,none,none,none,none,none,none,none,none,none] fun _ _ g r=>?_;obtain ⟨⟨h10,h11⟩,hF⟩:=AaJ hF;have h11_:=Aal h11;obtain ⟨v26,h12,h13,h14,hF⟩:=AaM hF;have h14_:=Aaf h14;try simp at h14_
  have h13_:=h13;try simp at h13_
  have h14z:=Afv h14;have h14__:=Aaf (AiO ((AV.int .i64)) h14);try simp at h14__
  obtain ⟨⟨h15,h16⟩,hF⟩:=AaJ hF;have h16_:=Aal h16;obtain ⟨v27,h17,h18,h19,hF⟩:=AaM hF;have h19_:=Aaf h19;try simp at h19_
  have h18_:=h18;try simp at h18_
  have h19__:=Aaf (AiO ((AV.int .i64)) h19);try simp at h19__
  obtain ⟨v28,h20,hF⟩:=Ahc hF;have h20_:=h20;try simp at h20_
  obtain ⟨⟨h21,h22⟩,hF⟩:=AaJ hF;have h22_:=Aal h22;have F4:=A9 F1 h10 h11 h11_ h12 h13 h14 h14_ (A9 h13_ h14z h14__ h15 h16 h16_ h17 h18 (A9 h19 h19_ h18_ h19__ h20 h20_ h21 h22 h22_));refine TL F4 g r [] [] [2,3] [(2,.cells [Lz (([0,1,2,3,4,5,6] : List Int).take (IntKind.wrap .i64 (2+v16)).toNat),Lz v24,AV.slc 3 0 1 ((([IntKind.wrap .i64 (1+v18),IntKind.wrap .i64 (1+v20)] : List Int).set (1 : Int).toNat v28).length) true,Iz v22,Iz v10,Iz v12,Iz v14]),(3,Ci (([IntKind.wrap .i64 (1+v18),IntKind.wrap .i64 (1+v20)] : List Int).set (1 : Int).toNat v28))] 4 ?_;refine SW F4 [] [none,none] [3] [] [1,2] [(1,.cells [Lz (([0,1,2,3,4,5,6] : List Int).take (IntKind.wrap .i64 (2+v16)).toNat),Lz v24,AV.slc 3 0 1 ((([IntKind.wrap .i64 (1+v18),IntKind.wrap .i64 (1+v20)] : List Int).set (1 : Int).toNat v28).length) true,Iz v22,Iz v10,Iz v12,Iz v14])] 4 ?_;refine AW.rnm (m:=1) h0 [(0,0),(1,3),(2,1)] [(2,AV.ptr 2 0)] [(0,.cells [Lz v0,Iz v25]),(1,Ci (([IntKind.wrap .i64 (1+v18),IntKind.wrap .i64 (1+v20)] : List Int).set (1 : Int).toNat v28)),(2,.cells [Lz (([0,1,2,3,4,5,6] : List Int).take (IntKind.wrap .i64 (2+v16)).toNat),Lz v24,AV.slc 1 0 1 ((([IntKind.wrap .i64 (1+v18),IntKind.wrap .i64 (1+v20)] : List Int).set (1 : Int).toNat v28).length) true,Iz v22,Iz v10,Iz v12,Iz v14])] 3 (by decide) (by decide) (by decide) rfl (by simp [F4]) (by simp [F4]) ?_;refine AW.flg [] [(2,.cells [Lz (([0,1,2,3,4,5,6] : List Int).take (IntKind.wrap .i64 (2+v16)).toNat),Lz v24,AV.slc 1 0 1 ((([IntKind.wrap .i64 (1+v18),IntKind.wrap .i64 (1+v20)] : List Int).set (1 : Int).toNat v28).length) false,Iz v22,Iz v10,Iz v12,Iz v14])] trivial ⟨⟨Aaj.cells [Lz (([0,1,2,3,4,5,6] : List Int).take (IntKind.wrap .i64 (2+v16)).toNat),Lz v24,AV.slc 1 0 1 ((([IntKind.wrap .i64 (1+v18),IntKind.wrap .i64 (1+v20)] : List Int).set (1 : Int).toNat v28).length) true,Iz v22,Iz v10,Iz v12,Iz v14],by simp [F4],(.mk (.cons (.same _) (.cons (.same _) (.cons .slc (.cons (.same _) (.cons (.same _) (.cons (.same _) (.cons (.same _) .nil))))))))⟩,trivial⟩ (by simp) ?_;simp only [Option.some.injEq,Prod.mk.injEq] at hF;obtain ⟨e0,e1,e2,e3,e4,e5,e6,e7⟩:=hF;subst e0 e1 e2 e3 e4 e5 e6 e7;refine AW.ret (hQ _ _ _ ?_ (AaE ?_)).1
  ·simp [Try.f10,F4]
  ·simp [F4]
abbrev AbU  : Aaj := .cells [AV.lst true true (List.map (AV.int .i64) ([] : List Int)),AV.lst true true (List.map (AV.int .i64) ([] : List Int)),AV.lst true true (List.map (AV.int .i64) ([] : List Int)),Iz 0,Iz 0,Iz 0,Iz 0]
theorem Ai5 (k : Nat) (v0 : (List Int)) (v1 : Int) (v2 : (List Int)) (v3 : (List Int)) (v4 : (List Int)) (v5 : Int) (v6 : Int) (v7 : Int) (v8 : Int) (v9 : (List Int)) (v10 : (List Int)) (v11 : (List Int)) (v12 : Int) (v13 : Int) (v14 : Int) (v15 : Int) (v16 : Int) (hF : AbK k v0 v1 v2 v3 v4 v5 v6 v7 v8=some (v9,v10,v11,v12,v13,v14,v15,v16)) :
 AbA Try.prog 11 [AV.ptr 0 0,AV.agg [AV.lst false false (List.map (AV.int .i64) v2),AV.lst false false (List.map (AV.int .i64) v3),AV.lst false false (List.map (AV.int .i64) v4),AV.int .i64 v5,AV.int .i64 v6,AV.int .i64 v7,AV.int .i64 v8]] [.cells [AV.lst false false (List.map (AV.int .i64) v0),AV.int .i64 v1]] (AV.agg [AV.lst false false (List.map (AV.int .i64) v9),AV.lst false false (List.map (AV.int .i64) v10),AV.lst false false (List.map (AV.int .i64) v11),AV.int .i64 v12,AV.int .i64 v13,AV.int .i64 v14,AV.int .i64 v15]) [some (.cells [AV.lst false false (List.map (AV.int .i64) v0),AV.int .i64 v16])]:=by
 unfold AbK at hF;refine EN Try.func11 ?_;intro c0 w0 Q h0 hQ
 refine WK [(0,AV.ptr 0 0),(1,AV.agg [Lz v2,Lz v3,Lz v4,Iz v5,Iz v6,Iz v7,Iz v8])] [(0,.cells [Lz v0,Iz v1])] 1 (by simp) (by simp) ?_;refine SW trivial [] [none,none] [1] [(3,AV.ptr 1 0),(4,AV.ptr 2 0)] [] [(1,.cells [Lz v2,Lz v3,Lz v4,Iz v5,Iz v6,Iz v7,Iz v8]),(2,AbU )] 3 ?_;refine AW.midF (α:=((List Int)×(List Int)×(List Int)×Int×Int×Int×Int×Int)) (fun (v17,v18,v19,v20,v21,v22,v23,v24)=>AbK.J1 k v17 v18 v19 v20 v21 v22 v23 v24=some (v9,v10,v11,v12,v13,v14,v15,v16)) (fun (v17,v18,v19,v20,v21,v22,v23,v24)=>[(3,AV.ptr 1 0),(4,AV.ptr 2 0)]) (fun (v17,v18,v19,v20,v21,v22,v23,v24)=>[(0,.cells [Lz v0,Iz v24]),(1,.cells [Lz v17,Lz v18,Lz v19,Iz v20,Iz v21,Iz v22,Iz v23]),(2,AbU )]) 3 (fun K48 hK48=>?_) ?_
 ·refine SR [] [none,none] fun _ _ g r=>?_;try simp
  and_intros
  try any_goals first | omega | (simp [maxLen] <;> omega)
  obtain ⟨v25,v26,h1,hF⟩:=Aax hF;refine Aa6 (AbV k _ _ _ _ _ h1) (by simp) [0] [] [0] rfl (.cons (.same (by simp)) (.cons (.same (by simp)) .nil)) (by simp) (by decide) (by simp) (by simp) (.inl rfl) (by simp) (by simp) ?_;refine TL trivial g r [] [(6,Iz v25)] [0] [(0,.cells [Lz v0,Iz v26])] 3 ?_;refine AW.block ?_;refine SW trivial [] [none,none] [] [(12,AV.bool (v25==0))] [] [] 3 ?_;by_cases h2 : v25=0
  ·replace hF:=AaN h2 hF;have h2q : v25=0:=h2;have h2_:=AbY h2q;have h2__:=AbX h2q;have F1:=A3 h2_ h2__ h2q;refine CT (by simp [F1] <;> omega) ?_;refine RG [] [none,none,none,none,none,none,none,none,none,none,none] fun _ _ g r=>?_;try simp [F1]
   and_intros
   try any_goals first | omega | (simp [maxLen,F1] <;> omega)
   obtain ⟨v27,v28,h3,hF⟩:=Aax hF;refine Aa6 (AbV k _ _ _ _ _ h3) (by simp) [0] [] [0] rfl (.cons (.same (by simp [F1])) (.cons (.same (by simp [F1])) .nil)) (by simp [F1]) (by decide) (by simp) (by simp) (.inl rfl) (by simp) (by simp) ?_;by_cases h4 : v27=0
   ·replace hF:=AaN h4 hF;have h4q : v27=0:=h4;have h4_:=AbY h4q;have h4__:=AbX h4q;have F2:=A4 F1 h4_ h4__ h4q;try simp [F2]
    and_intros <;> first | exact GK g | apply r | omega | (simp [maxLen,F2] <;> omega)
    refine hK48 _ _ _ ?_;refine Can.weak [(3,AV.ptr 1 0),(4,AV.ptr 2 0)] [(0,.cells [Lz v0,Iz v28]),(1,.cells [AV.lst true true (List.map (AV.int .i64) ([] : List Int)),Lz v3,Lz v4,Iz v5,Iz v6,Iz v7,Iz v8]),(2,AbU )] 3 (by simp [F2]) (by simp [F2]) (by simp) ?_;refine Can.flg [] [(1,.cells [Lz ([] : List Int),Lz v3,Lz v4,Iz v5,Iz v6,Iz v7,Iz v8])] trivial ⟨⟨Aaj.cells [AV.lst true true (List.map (AV.int .i64) ([] : List Int)),Lz v3,Lz v4,Iz v5,Iz v6,Iz v7,Iz v8],by simp [F2],(.mk (.cons (.lst (by simp)) (.cons (.same _) (.cons (.same _) (.cons (.same _) (.cons (.same _) (.cons (.same _) (.cons (.same _) .nil))))))))⟩,trivial⟩ (by simp) ?_;exact JN ((([] : List Int),v3,v4,v5,v6,v7,v8,v28)) hF (by simp [F2]) (by simp [F2])
   ·replace hF:=AaO h4 hF;have h4_:=AbR h4;have h4__:=AbW h4;by_cases h5 : v27=1
    ·replace hF:=AaN h5 hF;have h5q : v27=1:=h5;have h5_:=AbY h5q;have h5__:=AbX h5q;have F3:=A7 F1 h4 h4_ h4__ h5_ h5__ h5q;try simp [F3]
     and_intros <;> first | exact GK g | apply r | omega | (simp [maxLen,F3] <;> omega)
     refine hK48 _ _ _ ?_;refine Can.weak [(3,AV.ptr 1 0),(4,AV.ptr 2 0)] [(0,.cells [Lz v0,Iz v28]),(1,.cells [AV.lst false true (List.map (AV.int .i64) ([1,1] : List Int)),Lz v3,Lz v4,Iz v5,Iz v6,Iz v7,Iz v8]),(2,AbU )] 3 (by simp [F3]) (by simp [F3]) (by simp) ?_;refine Can.flg [] [(1,.cells [Lz ([1,1] : List Int),Lz v3,Lz v4,Iz v5,Iz v6,Iz v7,Iz v8])] trivial ⟨⟨Aaj.cells [AV.lst false true (List.map (AV.int .i64) ([1,1] : List Int)),Lz v3,Lz v4,Iz v5,Iz v6,Iz v7,Iz v8],by simp [F3],(.mk (.cons (.lst (by simp)) (.cons (.same _) (.cons (.same _) (.cons (.same _) (.cons (.same _) (.cons (.same _) (.cons (.same _) .nil))))))))⟩,trivial⟩ (by simp) ?_;exact JN ((([1,1] : List Int),v3,v4,v5,v6,v7,v8,v28)) hF (by simp [F3]) (by simp [F3])
    ·replace hF:=AaO h5 hF;have h5_:=AbR h5;have h5__:=AbW h5;by_cases h6 : v27=2
     ·replace hF:=AaN h6 hF;have h6q : v27=2:=h6;have h6_:=AbY h6q;have h6__:=AbX h6q;have F4:=A9 F1 h4 h4_ h4__ h5 h5_ h5__ h6_ (A2 h6__ h6q);try simp [F4]
      and_intros <;> first | exact GK g | apply r | omega | (simp [maxLen,F4] <;> omega)
      refine hK48 _ _ _ ?_;refine Can.weak [(3,AV.ptr 1 0),(4,AV.ptr 2 0)] [(0,.cells [Lz v0,Iz v28]),(1,.cells [AV.lst false true (List.map (AV.int .i64) ([-1] : List Int)),Lz v3,Lz v4,Iz v5,Iz v6,Iz v7,Iz v8]),(2,AbU )] 3 (by simp [F4]) (by simp [F4]) (by simp) ?_;refine Can.flg [] [(1,.cells [Lz ([-1] : List Int),Lz v3,Lz v4,Iz v5,Iz v6,Iz v7,Iz v8])] trivial ⟨⟨Aaj.cells [AV.lst false true (List.map (AV.int .i64) ([-1] : List Int)),Lz v3,Lz v4,Iz v5,Iz v6,Iz v7,Iz v8],by simp [F4],(.mk (.cons (.lst (by simp)) (.cons (.same _) (.cons (.same _) (.cons (.same _) (.cons (.same _) (.cons (.same _) (.cons (.same _) .nil))))))))⟩,trivial⟩ (by simp) ?_;exact JN ((([-1] : List Int),v3,v4,v5,v6,v7,v8,v28)) hF (by simp [F4]) (by simp [F4])
     ·replace hF:=AaO h6 hF;have h6_:=AbR h6;have h6__:=AbW h6;by_cases h7 : v27=3
      ·replace hF:=AaN h7 hF;have h7q : v27=3:=h7;have h7_:=AbY h7q;have h7__:=AbX h7q;have F5:=A9 F1 h4 h4_ h4__ h5 h5_ h5__ h6 (A5 h6_ h6__ h7_ h7__ h7q);try simp [F5]
       and_intros <;> first | exact GK g | apply r | omega | (simp [maxLen,F5] <;> omega)
       refine hK48 _ _ _ ?_;refine Can.weak [(3,AV.ptr 1 0),(4,AV.ptr 2 0)] [(0,.cells [Lz v0,Iz v28]),(1,.cells [AV.lst false true (List.map (AV.int .i64) ([64] : List Int)),Lz v3,Lz v4,Iz v5,Iz v6,Iz v7,Iz v8]),(2,AbU )] 3 (by simp [F5]) (by simp [F5]) (by simp) ?_;refine Can.flg [] [(1,.cells [Lz ([64] : List Int),Lz v3,Lz v4,Iz v5,Iz v6,Iz v7,Iz v8])] trivial ⟨⟨Aaj.cells [AV.lst false true (List.map (AV.int .i64) ([64] : List Int)),Lz v3,Lz v4,Iz v5,Iz v6,Iz v7,Iz v8],by simp [F5],(.mk (.cons (.lst (by simp)) (.cons (.same _) (.cons (.same _) (.cons (.same _) (.cons (.same _) (.cons (.same _) (.cons (.same _) .nil))))))))⟩,trivial⟩ (by simp) ?_;exact JN ((([64] : List Int),v3,v4,v5,v6,v7,v8,v28)) hF (by simp [F5]) (by simp [F5])
      ·replace hF:=AaO h7 hF;have h7_:=AbR h7;have h7__:=AbW h7;by_cases h8 : v27=4
       ·replace hF:=AaN h8 hF;have h8q : v27=4:=h8;have h8_:=AbY h8q;have h8__:=AbX h8q;have F6:=A9 F1 h4 h4_ h4__ h5 h5_ h5__ h6 (A8 h6_ h6__ h7 h7_ h7__ h8_ h8__ h8q);try simp [F6]
        and_intros <;> first | exact GK g | apply r | omega | (simp [maxLen,F6] <;> omega)
        refine hK48 _ _ _ ?_;refine Can.weak [(3,AV.ptr 1 0),(4,AV.ptr 2 0)] [(0,.cells [Lz v0,Iz v28]),(1,.cells [AV.lst false true (List.map (AV.int .i64) ([3,2] : List Int)),Lz v3,Lz v4,Iz v5,Iz v6,Iz v7,Iz v8]),(2,AbU )] 3 (by simp [F6]) (by simp [F6]) (by simp) ?_;refine Can.flg [] [(1,.cells [Lz ([3,2] : List Int),Lz v3,Lz v4,Iz v5,Iz v6,Iz v7,Iz v8])] trivial ⟨⟨Aaj.cells [AV.lst false true (List.map (AV.int .i64) ([3,2] : List Int)),Lz v3,Lz v4,Iz v5,Iz v6,Iz v7,Iz v8],by simp [F6],(.mk (.cons (.lst (by simp)) (.cons (.same _) (.cons (.same _) (.cons (.same _) (.cons (.same _) (.cons (.same _) (.cons (.same _) .nil))))))))⟩,trivial⟩ (by simp) ?_;exact JN ((([3,2] : List Int),v3,v4,v5,v6,v7,v8,v28)) hF (by simp [F6]) (by simp [F6])
       ·replace hF:=AaO h8 hF;have h8_:=AbR h8;have h8__:=AbW h8;cases hF
  ·replace hF:=AaO h2 hF;have h2_:=AbR h2;have h2__:=AbW h2;have F7:=A3 h2 h2_ h2__;refine CF (by simp [F7] <;> omega) ?_;refine SW F7 [] [none,none] [12] [(24,AV.bool (v25==1))] [] [] 3 ?_;by_cases h9 : v25=1
   ·replace hF:=AaN h9 hF;have h9q : v25=1:=h9;have h9_:=AbY h9q;have h9__:=AbX h9q;have F8:=A4 F7 h9_ h9__ h9q;refine CT (by simp [F8] <;> omega) ?_;refine RG [] [none,none,none,none,none] fun _ _ g r=>?_;try simp [F8]
    and_intros
    try any_goals first | omega | (simp [maxLen,F8] <;> omega)
    obtain ⟨v29,v30,h10,hF⟩:=Aax hF;refine Aa6 (AbL k _ _ _ _ _ h10) (by simp) [0] [] [0] rfl (.cons (.same (by simp [F8])) (.cons (Coe.fl (by simp [F8])) .nil)) (by simp [F8]) (by decide) (by simp) (by simp) (.inl rfl) (by simp) (by simp) ?_;try simp [F8]
    and_intros <;> first | exact GK g | apply r | omega | (simp [maxLen,F8] <;> omega)
    refine hK48 _ _ _ ?_;exact JN ((v2,v3,v4,v5,v29,v7,v8,v30)) hF (by simp [F8]) (by simp [F8])
   ·replace hF:=AaO h9 hF;have h9_:=AbR h9;have h9__:=AbW h9;have F9:=A4 F7 h9 h9_ h9__;refine CF (by simp [F9] <;> omega) ?_;refine SW F9 [] [none,none] [24] [(30,AV.bool (v25==2))] [] [] 3 ?_;by_cases h11 : v25=2
    ·replace hF:=AaN h11 hF;have h11q : v25=2:=h11;have h11_:=AbY h11q;have h11__:=AbX h11q;have F10:=A4 F9 h11_ h11__ h11q;refine CT (by simp [F10] <;> omega) ?_;refine RG [] [none,none,none,none,none] fun _ _ g r=>?_;try simp [F10]
     and_intros
     try any_goals first | omega | (simp [maxLen,F10] <;> omega)
     obtain ⟨v31,v32,h12,hF⟩:=Aax hF;refine Aa6 (AbL k _ _ _ _ _ h12) (by simp) [0] [] [0] rfl (.cons (.same (by simp [F10])) (.cons (Coe.fl (by simp [F10])) .nil)) (by simp [F10]) (by decide) (by simp) (by simp) (.inl rfl) (by simp) (by simp) ?_;try simp [F10]
     and_intros <;> first | exact GK g | apply r | omega | (simp [maxLen,F10] <;> omega)
     refine hK48 _ _ _ ?_;exact JN ((v2,v3,v4,v5,v6,v31,v8,v32)) hF (by simp [F10]) (by simp [F10])
    ·replace hF:=AaO h11 hF;have h11_:=AbR h11;have h11__:=AbW h11;have F11:=A4 F9 h11 h11_ h11__;refine CF (by simp [F11] <;> omega) ?_;refine SW F11 [] [none,none] [30] [(36,AV.bool (v25==3))] [] [] 3 ?_;by_cases h13 : v25=3
     ·replace hF:=AaN h13 hF;have h13q : v25=3:=h13;have h13_:=AbY h13q;have h13__:=AbX h13q;have F12:=A4 F11 h13_ h13__ h13q;refine CT (by simp [F12] <;> omega) ?_;refine RG [] [none,none,none,none,none] fun _ _ g r=>?_;try simp [F12]
      and_intros
      try any_goals first | omega | (simp [maxLen,F12] <;> omega)
      obtain ⟨v33,v34,h14,hF⟩:=Aax hF;refine Aa6 (AbL k _ _ _ _ _ h14) (by simp) [0] [] [0] rfl (.cons (.same (by simp [F12])) (.cons (Coe.fl (by simp [F12])) .nil)) (by simp [F12]) (by decide) (by simp) (by simp) (.inl rfl) (by simp) (by simp) ?_;try simp [F12]
      and_intros <;> first | exact GK g | apply r | omega | (simp [maxLen,F12] <;> omega)
      refine hK48 _ _ _ ?_;exact JN ((v2,v3,v4,v5,v6,v7,v33,v34)) hF (by simp [F12]) (by simp [F12])
     ·replace hF:=AaO h13 hF;have h13_:=AbR h13;have h13__:=AbW h13;have F13:=A4 F11 h13 h13_ h13__;refine CF (by simp [F13] <;> omega) ?_;refine SW F13 [] [none,none] [36] [(42,AV.bool (v25==4))] [] [] 3 ?_;by_cases h15 : v25=4
      ·replace hF:=AaN h15 hF;have h15q : v25=4:=h15;have h15_:=AbY h15q;have h15__:=AbX h15q;have F14:=A4 F13 h15_ h15__ h15q;refine CT (by simp [F14] <;> omega) ?_;refine RG [] [none,none,none,none,none,none,none,none,none,none] fun _ _ g r=>?_;try simp [F14]
       and_intros
       try any_goals first | omega | (simp [maxLen,F14] <;> omega)
       obtain ⟨v35,v36,h16,hF⟩:=Aax hF;refine Aa6 (AbV k _ _ _ _ _ h16) (by simp) [0] [] [0] rfl (.cons (.same (by simp [F14])) (.cons (.same (by simp [F14])) .nil)) (by simp [F14]) (by decide) (by simp) (by simp) (.inl rfl) (by simp) (by simp) ?_;by_cases h17 : v35=0
       ·replace hF:=AaN h17 hF;have h17q : v35=0:=h17;have h17_:=AbY h17q;have h17__:=AbX h17q;have F15:=A4 F14 h17_ h17__ h17q;try simp [F15]
        and_intros <;> first | exact GK g | apply r | omega | (simp [maxLen,F15] <;> omega)
        refine hK48 _ _ _ ?_;refine Can.weak [(3,AV.ptr 1 0),(4,AV.ptr 2 0)] [(0,.cells [Lz v0,Iz v36]),(1,.cells [Lz v2,AV.lst true true (List.map (AV.int .i64) ([] : List Int)),Lz v4,Iz v5,Iz v6,Iz v7,Iz v8]),(2,AbU )] 3 (by simp [F15]) (by simp [F15]) (by simp) ?_;refine Can.flg [] [(1,.cells [Lz v2,Lz ([] : List Int),Lz v4,Iz v5,Iz v6,Iz v7,Iz v8])] trivial ⟨⟨Aaj.cells [Lz v2,AV.lst true true (List.map (AV.int .i64) ([] : List Int)),Lz v4,Iz v5,Iz v6,Iz v7,Iz v8],by simp [F15],(.mk (.cons (.same _) (.cons (.lst (by simp)) (.cons (.same _) (.cons (.same _) (.cons (.same _) (.cons (.same _) (.cons (.same _) .nil))))))))⟩,trivial⟩ (by simp) ?_;exact JN ((v2,([] : List Int),v4,v5,v6,v7,v8,v36)) hF (by simp [F15]) (by simp [F15])
       ·replace hF:=AaO h17 hF;have h17_:=AbR h17;have h17__:=AbW h17;by_cases h18 : v35=1
        ·replace hF:=AaN h18 hF;have h18q : v35=1:=h18;have h18_:=AbY h18q;have h18__:=AbX h18q;have F16:=A7 F14 h17 h17_ h17__ h18_ h18__ h18q;try simp [F16]
         and_intros <;> first | exact GK g | apply r | omega | (simp [maxLen,F16] <;> omega)
         refine hK48 _ _ _ ?_;refine Can.weak [(3,AV.ptr 1 0),(4,AV.ptr 2 0)] [(0,.cells [Lz v0,Iz v36]),(1,.cells [Lz v2,AV.lst false true (List.map (AV.int .i64) ([64] : List Int)),Lz v4,Iz v5,Iz v6,Iz v7,Iz v8]),(2,AbU )] 3 (by simp [F16]) (by simp [F16]) (by simp) ?_;refine Can.flg [] [(1,.cells [Lz v2,Lz ([64] : List Int),Lz v4,Iz v5,Iz v6,Iz v7,Iz v8])] trivial ⟨⟨Aaj.cells [Lz v2,AV.lst false true (List.map (AV.int .i64) ([64] : List Int)),Lz v4,Iz v5,Iz v6,Iz v7,Iz v8],by simp [F16],(.mk (.cons (.same _) (.cons (.lst (by simp)) (.cons (.same _) (.cons (.same _) (.cons (.same _) (.cons (.same _) (.cons (.same _) .nil))))))))⟩,trivial⟩ (by simp) ?_;exact JN ((v2,([64] : List Int),v4,v5,v6,v7,v8,v36)) hF (by simp [F16]) (by simp [F16])
        ·replace hF:=AaO h18 hF;have h18_:=AbR h18;have h18__:=AbW h18;by_cases h19 : v35=2
         ·replace hF:=AaN h19 hF;have h19q : v35=2:=h19;have h19_:=AbY h19q;have h19__:=AbX h19q;have F17:=A9 F14 h17 h17_ h17__ h18 h18_ h18__ h19_ (A2 h19__ h19q);try simp [F17]
          and_intros <;> first | exact GK g | apply r | omega | (simp [maxLen,F17] <;> omega)
          refine hK48 _ _ _ ?_;refine Can.weak [(3,AV.ptr 1 0),(4,AV.ptr 2 0)] [(0,.cells [Lz v0,Iz v36]),(1,.cells [Lz v2,AV.lst false true (List.map (AV.int .i64) ([1,0] : List Int)),Lz v4,Iz v5,Iz v6,Iz v7,Iz v8]),(2,AbU )] 3 (by simp [F17]) (by simp [F17]) (by simp) ?_;refine Can.flg [] [(1,.cells [Lz v2,Lz ([1,0] : List Int),Lz v4,Iz v5,Iz v6,Iz v7,Iz v8])] trivial ⟨⟨Aaj.cells [Lz v2,AV.lst false true (List.map (AV.int .i64) ([1,0] : List Int)),Lz v4,Iz v5,Iz v6,Iz v7,Iz v8],by simp [F17],(.mk (.cons (.same _) (.cons (.lst (by simp)) (.cons (.same _) (.cons (.same _) (.cons (.same _) (.cons (.same _) (.cons (.same _) .nil))))))))⟩,trivial⟩ (by simp) ?_;exact JN ((v2,([1,0] : List Int),v4,v5,v6,v7,v8,v36)) hF (by simp [F17]) (by simp [F17])
         ·replace hF:=AaO h19 hF;have h19_:=AbR h19;have h19__:=AbW h19;cases hF
      ·replace hF:=AaO h15 hF;have h15_:=AbR h15;have h15__:=AbW h15;have F18:=A4 F13 h15 h15_ h15__;refine CF (by simp [F18] <;> omega) ?_;refine SW F18 [] [none,none] [6,42] [(53,AV.bool (v25==5))] [] [] 3 ?_;by_cases h20 : v25=5
       ·replace hF:=AaN h20 hF;have h20q : v25=5:=h20;have h20_:=AbY h20q;have h20__:=AbX h20q;have F19:=A4 F18 h20_ h20__ h20q;refine CT (by simp [F19] <;> omega) ?_;refine RG [] [none,none,none,none,none,none,none,none,none,none,none] fun _ _ g r=>?_;try simp [F19]
        and_intros
        try any_goals first | omega | (simp [maxLen,F19] <;> omega)
        obtain ⟨v37,v38,h21,hF⟩:=Aax hF;refine Aa6 (AbV k _ _ _ _ _ h21) (by simp) [0] [] [0] rfl (.cons (.same (by simp [F19])) (.cons (.same (by simp [F19])) .nil)) (by simp [F19]) (by decide) (by simp) (by simp) (.inl rfl) (by simp) (by simp) ?_;by_cases h22 : v37=0
        ·replace hF:=AaN h22 hF;have h22q : v37=0:=h22;have h22_:=AbY h22q;have h22__:=AbX h22q;have F20:=A4 F19 h22_ h22__ h22q;try simp [F20]
         and_intros <;> first | exact GK g | apply r | omega | (simp [maxLen,F20] <;> omega)
         refine hK48 _ _ _ ?_;refine Can.weak [(3,AV.ptr 1 0),(4,AV.ptr 2 0)] [(0,.cells [Lz v0,Iz v38]),(1,.cells [Lz v2,Lz v3,AV.lst true true (List.map (AV.int .i64) ([] : List Int)),Iz v5,Iz v6,Iz v7,Iz v8]),(2,AbU )] 3 (by simp [F20]) (by simp [F20]) (by simp) ?_;refine Can.flg [] [(1,.cells [Lz v2,Lz v3,Lz ([] : List Int),Iz v5,Iz v6,Iz v7,Iz v8])] trivial ⟨⟨Aaj.cells [Lz v2,Lz v3,AV.lst true true (List.map (AV.int .i64) ([] : List Int)),Iz v5,Iz v6,Iz v7,Iz v8],by simp [F20],(.mk (.cons (.same _) (.cons (.same _) (.cons (.lst (by simp)) (.cons (.same _) (.cons (.same _) (.cons (.same _) (.cons (.same _) .nil))))))))⟩,trivial⟩ (by simp) ?_;exact JN ((v2,v3,([] : List Int),v5,v6,v7,v8,v38)) hF (by simp [F20]) (by simp [F20])
        ·replace hF:=AaO h22 hF;have h22_:=AbR h22;have h22__:=AbW h22;by_cases h23 : v37=1
         ·replace hF:=AaN h23 hF;have h23q : v37=1:=h23;have h23_:=AbY h23q;have h23__:=AbX h23q;have F21:=A7 F19 h22 h22_ h22__ h23_ h23__ h23q;try simp [F21]
          and_intros <;> first | exact GK g | apply r | omega | (simp [maxLen,F21] <;> omega)
          refine hK48 _ _ _ ?_;refine Can.weak [(3,AV.ptr 1 0),(4,AV.ptr 2 0)] [(0,.cells [Lz v0,Iz v38]),(1,.cells [Lz v2,Lz v3,AV.lst false true (List.map (AV.int .i64) ([1,2] : List Int)),Iz v5,Iz v6,Iz v7,Iz v8]),(2,AbU )] 3 (by simp [F21]) (by simp [F21]) (by simp) ?_;refine Can.flg [] [(1,.cells [Lz v2,Lz v3,Lz ([1,2] : List Int),Iz v5,Iz v6,Iz v7,Iz v8])] trivial ⟨⟨Aaj.cells [Lz v2,Lz v3,AV.lst false true (List.map (AV.int .i64) ([1,2] : List Int)),Iz v5,Iz v6,Iz v7,Iz v8],by simp [F21],(.mk (.cons (.same _) (.cons (.same _) (.cons (.lst (by simp)) (.cons (.same _) (.cons (.same _) (.cons (.same _) (.cons (.same _) .nil))))))))⟩,trivial⟩ (by simp) ?_;exact JN ((v2,v3,([1,2] : List Int),v5,v6,v7,v8,v38)) hF (by simp [F21]) (by simp [F21])
         ·replace hF:=AaO h23 hF;have h23_:=AbR h23;have h23__:=AbW h23;by_cases h24 : v37=2
          ·replace hF:=AaN h24 hF;have h24q : v37=2:=h24;have h24_:=AbY h24q;have h24__:=AbX h24q;have F22:=A9 F19 h22 h22_ h22__ h23 h23_ h23__ h24_ (A2 h24__ h24q);try simp [F22]
           and_intros <;> first | exact GK g | apply r | omega | (simp [maxLen,F22] <;> omega)
           refine hK48 _ _ _ ?_;refine Can.weak [(3,AV.ptr 1 0),(4,AV.ptr 2 0)] [(0,.cells [Lz v0,Iz v38]),(1,.cells [Lz v2,Lz v3,AV.lst false true (List.map (AV.int .i64) ([0] : List Int)),Iz v5,Iz v6,Iz v7,Iz v8]),(2,AbU )] 3 (by simp [F22]) (by simp [F22]) (by simp) ?_;refine Can.flg [] [(1,.cells [Lz v2,Lz v3,Lz ([0] : List Int),Iz v5,Iz v6,Iz v7,Iz v8])] trivial ⟨⟨Aaj.cells [Lz v2,Lz v3,AV.lst false true (List.map (AV.int .i64) ([0] : List Int)),Iz v5,Iz v6,Iz v7,Iz v8],by simp [F22],(.mk (.cons (.same _) (.cons (.same _) (.cons (.lst (by simp)) (.cons (.same _) (.cons (.same _) (.cons (.same _) (.cons (.same _) .nil))))))))⟩,trivial⟩ (by simp) ?_;exact JN ((v2,v3,([0] : List Int),v5,v6,v7,v8,v38)) hF (by simp [F22]) (by simp [F22])
          ·replace hF:=AaO h24 hF;have h24_:=AbR h24;have h24__:=AbW h24;by_cases h25 : v37=3
           ·replace hF:=AaN h25 hF;have h25q : v37=3:=h25;have h25_:=AbY h25q;have h25__:=AbX h25q;have F23:=A9 F19 h22 h22_ h22__ h23 h23_ h23__ h24 (A5 h24_ h24__ h25_ h25__ h25q);try simp [F23]
            and_intros <;> first | exact GK g | apply r | omega | (simp [maxLen,F23] <;> omega)
            refine hK48 _ _ _ ?_;refine Can.weak [(3,AV.ptr 1 0),(4,AV.ptr 2 0)] [(0,.cells [Lz v0,Iz v38]),(1,.cells [Lz v2,Lz v3,AV.lst false true (List.map (AV.int .i64) ([1001] : List Int)),Iz v5,Iz v6,Iz v7,Iz v8]),(2,AbU )] 3 (by simp [F23]) (by simp [F23]) (by simp) ?_;refine Can.flg [] [(1,.cells [Lz v2,Lz v3,Lz ([1001] : List Int),Iz v5,Iz v6,Iz v7,Iz v8])] trivial ⟨⟨Aaj.cells [Lz v2,Lz v3,AV.lst false true (List.map (AV.int .i64) ([1001] : List Int)),Iz v5,Iz v6,Iz v7,Iz v8],by simp [F23],(.mk (.cons (.same _) (.cons (.same _) (.cons (.lst (by simp)) (.cons (.same _) (.cons (.same _) (.cons (.same _) (.cons (.same _) .nil))))))))⟩,trivial⟩ (by simp) ?_;exact JN ((v2,v3,([1001] : List Int),v5,v6,v7,v8,v38)) hF (by simp [F23]) (by simp [F23])
           ·replace hF:=AaO h25 hF;have h25_:=AbR h25;have h25__:=AbW h25;cases hF
       ·replace hF:=AaO h20 hF;have h20_:=AbR h20;have h20__:=AbW h20;have F24:=A4 F18 h20 h20_ h20__;refine CF (by simp [F24] <;> omega) ?_;refine RG [] [none,none,none,none,none,none] fun _ _ g r=>?_;try simp [F24]
        and_intros
        try any_goals first | omega | (simp [maxLen,F24] <;> omega)
        obtain ⟨v39,v40,h26,hF⟩:=Aax hF;refine Aa6 (AbL k _ _ _ _ _ h26) (by simp) [0] [] [0] rfl (.cons (.same (by simp [F24])) (.cons (Coe.fl (by simp [F24])) .nil)) (by simp [F24]) (by decide) (by simp) (by simp) (.inl rfl) (by simp) (by simp) ?_;try simp [F24]
        and_intros <;> first | exact GK g | apply r | omega | (simp [maxLen,F24] <;> omega)
        refine hK48 _ _ _ ?_;exact JN ((v2,v3,v4,v39,v6,v7,v8,v40)) hF (by simp [F24]) (by simp [F24])
 ·rintro ⟨v17,v18,v19,v20,v21,v22,v23,v24⟩ hF
  try dsimp only at hF
  unfold AbK.J1 at hF;refine SW trivial [] [none,none] [3] [] [1,2] [(2,.cells [Lz v17,Lz v18,Lz v19,Iz v20,Iz v21,Iz v22,Iz v23])] 3 ?_;refine AW.rnm (m:=1) h0 [(0,0),(1,2)] [(4,AV.ptr 1 0)] [(0,.cells [Lz v0,Iz v24]),(1,.cells [Lz v17,Lz v18,Lz v19,Iz v20,Iz v21,Iz v22,Iz v23])] 2 (by decide) (by decide) (by decide) rfl (by simp) (by simp) ?_;simp only [Option.some.injEq,Prod.mk.injEq] at hF;obtain ⟨e0,e1,e2,e3,e4,e5,e6,e7⟩:=hF;subst e0 e1 e2 e3 e4 e5 e6 e7;refine AW.ret (hQ _ _ _ ?_ (AaE ?_)).1
  ·simp [Try.f11]
  ·simp
end Go.TF
