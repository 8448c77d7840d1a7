import Derived.Test.YtomgdcnbceiggaaBazWal27
set_option linter.unusedVariables false
set_option linter.unusedSimpArgs false
set_option maxRecDepth 100000
set_option maxHeartbeats 4000000
namespace Go.TF
open Go Go.Abs Go.Proofs Go.Proofs.YtomgdcnbceiggaaBaT
theorem AhC (k : Nat) (v0 : (List Int)) (v1 : Bool) (hF : Ad9 k v0=some v1) :
 AbA Try.prog 7 [AV.lst false false (List.map (AV.int .i64) v0)] [] (AV.bool v1) []:=by
 unfold Ad9 at hF;refine EN Try.func7 ?_;intro c0 w0 Q h0 hQ
 refine WK [(0,Lz v0)] [] 0 (by simp) (by simp) ?_;refine SW trivial [] [none] [] [] [] [] 0 ?_;refine SW trivial [] [none,none,none,none] [0] [(2,AV.bool (decide ((v0.length : Int)≤400)))] [] [] 0 ?_;simp only [Option.some.injEq] at hF;subst hF;refine AW.ret (hQ _ _ _ ?_ (AaE ?_)).1
 ·simp [Try.f7]
 ·simp
theorem Adm (k : Nat) (v0 : Int) (v1 : Bool) (hF : Aco k v0=some v1) :
 AbA Try.prog 74 [AV.int .i64 v0] [] (AV.bool v1) []:=by
 unfold Aco at hF;refine EN Try.func74 ?_;intro c0 w0 Q h0 hQ
 refine WK [(0,Iz v0)] [] 0 (by simp) (by simp) ?_;refine SW trivial [] [none] [] [] [] [] 0 ?_;refine SR [] [none,none,none,some (5,true),some (5,true),none,none] fun _ _ g r=>?_;by_cases h1 : 0≤v0
 ·replace hF:=AaN h1 hF;have h1_:=h1;try simp at h1_
  refine TL (A2 h1 h1_) g r [0] [(2,AV.bool (decide (v0<4294967296)))] [] [] 0 ?_;simp only [Option.some.injEq] at hF;subst hF;refine AW.ret (hQ _ _ _ ?_ (AaE ?_)).1
  ·simp [Try.f74,h1,h1_]
  ·simp [h1,h1_]
 ·replace hF:=AaO h1 hF;have h1_:=h1;try simp at h1_
  refine TL (A2 h1 h1_) g r [0] [(2,AV.bool false)] [] [] 0 ?_;simp only [Option.some.injEq] at hF;subst hF;refine AW.ret (hQ _ _ _ ?_ (AaE ?_)).1
  ·simp [Try.f74,h1,h1_]
  ·simp [h1,h1_]
theorem Af5 (k : Nat) (v0 : Int) (v1 : Bool) (hF : Ad3 k v0=some v1) :
 AbA Try.prog 73 [AV.int .i64 v0] [] (AV.bool v1) []:=by
 unfold Ad3 at hF;refine EN Try.func73 ?_;intro c0 w0 Q h0 hQ
 refine WK [(0,Iz v0)] [] 0 (by simp) (by simp) ?_;refine SW trivial [] [none] [] [] [] [] 0 ?_;obtain ⟨v2,h1,hF⟩:=AaH hF;refine CL trivial [] [none,none,none,none] (Adm k _ _ h1) [0] [(2,AV.bool (!v2))] [] [] 0 ?_;simp only [Option.some.injEq] at hF;subst hF;refine AW.ret (hQ _ _ _ ?_ (AaE ?_)).1
 ·simp [Try.f73]
 ·simp
theorem AcT (k : Nat) (v0 : (List Int)) (v1 : Int) (hF : AaZ k v0=some v1) :
 AbA Try.prog 105 [AV.lst false false (List.map (AV.int .i64) v0),AV.fn 73 []] [] (AV.int .i64 v1) []:=by
 unfold AaZ at hF;refine EN Try.func105 ?_;intro c0 w0 Q h0 hQ
 refine WK [(0,Lz v0),(1,AV.fn 73 [])] [] 0 (by simp) (by simp) ?_;refine SW trivial [] [none] [] [] [] [] 0 ?_;refine AW.seq fun K131 hK131=>?_;refine SW trivial [] [none,none,none] [] [(7,Iz (v0.length : Int)),(8,Iz 0)] [] [] 0 ?_;refine AW.block ?_;refine AW.loopF (α:=Int) (fun n v2=>AaZ.L1 k v0 n v2=some v1) (fun v2=>[(0,Lz v0),(1,AV.fn 73 []),(7,Iz (v0.length : Int)),(8,Iz v2)]) (fun v2=>[]) 0 k (0) hF (by simp) (by simp) (by simp) ?_;rintro (_|n1) v2 hF K163 hK163
 ·try dsimp only at hF
  rw [AaZ.L1] at hF; cases hF
 try dsimp only at hF
 rw [AaZ.L1] at hF;refine SW trivial [] [none] [] [(9,AV.bool (decide (v2<(v0.length : Int))))] [] [] 0 ?_;refine AW.seq fun K165 hK165=>?_;by_cases h1 : v2<(v0.length : Int)
 ·replace hF:=AaN h1 hF;have h1_:=h1;try simp at h1_
  refine CT (by simp [h1,h1_] <;> omega) ?_;refine AW.skip ?_;refine hK165 _ _ _ ?_;refine AW.seq fun K169 hK169=>?_;refine AW.block ?_;refine SW (A2 h1 h1_) [] [none,none] [] [(5,Iz v2)] [] [] 0 ?_;refine SR [] [none,none,none,none,none,none] fun _ _ g r=>?_;obtain ⟨v3,h2,h3,h4,hF⟩:=AaM hF;have h4_:=Aaf h4;try simp at h4_
  have h3_:=h3;try simp at h3_
  have F1:=A7 h1 h1_ h2 h3 h4 h4_ h3_;try simp [F1]
  and_intros
  try any_goals first | omega | (simp [maxLen,F1] <;> omega)
  obtain ⟨v4,h5,hF⟩:=AaH hF;refine AC (Af5 k _ _ h5) (.cons (.same (by simp [F1])) .nil) ?_;refine TL F1 g r [] [(16,AV.bool v4)] [] [] 0 ?_;by_cases h6 : v4=true
  ·replace hF:=AaN h6 hF;have h6_:=h6;try simp at h6_
   have F2:=A3 F1 h6 h6_;refine CT (by simp [F2] <;> omega) ?_;refine SW F2 [] [none,none] [0,1,5,7,8,16] [(4,Iz v2)] [] [] 0 ?_;simp only [Option.some.injEq] at hF;subst hF;refine AW.ret (hQ _ _ _ ?_ (AaE ?_)).1
   ·simp [Try.f105,F2]
   ·simp [F2]
  ·replace hF:=AaO h6 hF;have h6_:=h6;try simp at h6_
   have F3:=A3 F1 h6 h6_;refine CF (by simp [F3] <;> omega) ?_;refine AW.skip ?_;refine hK169 _ _ _ ?_;refine RG [] [none,none] fun _ _ g r=>?_;try simp [F3]
   and_intros <;> first | exact GK g | apply r | omega | (simp [maxLen,F3] <;> omega)
   refine hK163 _ _ _ ?_;exact NX (k':=n1) (IntKind.wrap .i64 (v2+1)) hF (by simp [F3]) (by simp [F3])
 ·replace hF:=AaO h1 hF;have h1_:=h1;try simp at h1_
  refine CF (by simp [h1,h1_] <;> omega) ?_;refine AW.exit ?_;try simp
  refine hK131 _ _ _ ?_;refine SW (A2 h1 h1_) [] [none] [0,1,7,8] [(4,Iz (-1))] [] [] 0 ?_;simp only [Option.some.injEq] at hF;subst hF;refine AW.ret (hQ _ _ _ ?_ (AaE ?_)).1
  ·simp [Try.f105,h1,h1_]
  ·simp [h1,h1_]
theorem AcE (k : Nat) (v0 : (List Int)) (v1 : Bool) (hF : AbN k v0=some v1) :
 AbA Try.prog 65 [AV.lst false false (List.map (AV.int .i64) v0),AV.fn 73 []] [] (AV.bool v1) []:=by
 unfold AbN at hF;refine EN Try.func65 ?_;intro c0 w0 Q h0 hQ
 refine WK [(0,Lz v0),(1,AV.fn 73 [])] [] 0 (by simp) (by simp) ?_;refine SW trivial [] [none] [] [] [] [] 0 ?_;obtain ⟨v2,h1,hF⟩:=AaH hF;refine CL trivial [] [none,none,none,none,none] (AcT k _ _ h1) [0,1] [(4,AV.bool (decide (0≤v2)))] [] [] 0 ?_;simp only [Option.some.injEq] at hF;subst hF;refine AW.ret (hQ _ _ _ ?_ (AaE ?_)).1
 ·simp [Try.f65]
 ·simp
theorem AhF (k : Nat) (v0 : (List Int)) (v1 : Int) (v2 : Int) (v3 : Int) (hF : Ab4 k v0 v1=some (v2,v3)) :
 AbA Try.prog 39 [AV.lst false false (List.map (AV.int .i64) v0),AV.int .i64 v1] [] (AV.tup [AV.int .i64 v2,AV.int .i64 v3]) []:=by
 unfold Ab4 at hF;refine EN Try.func39 ?_;intro c0 w0 Q h0 hQ
 refine WK [(0,Lz v0),(1,Iz v1)] [] 0 (by simp) (by simp) ?_;refine SW trivial [] [none,none] [] [] [] [] 0 ?_;refine AW.seq fun K93 hK93=>?_;refine AW.block ?_;refine SW trivial [] [none,none,none,none] [] [(9,AV.bool (decide (64<(v0.length : Int))))] [] [] 0 ?_;by_cases h1 : 64<(v0.length : Int)
 ·replace hF:=AaN h1 hF;have h1_:=h1;try simp at h1_
  refine CT (by simp [h1,h1_] <;> omega) ?_;refine SW (A2 h1 h1_) [] [none,none] [0,1,9] [(4,Iz 0),(5,Iz 3)] [] [] 0 ?_;simp only [Option.some.injEq,Prod.mk.injEq] at hF;obtain ⟨e0,e1⟩:=hF;subst e0 e1;refine AW.ret (hQ _ _ _ ?_ (AaE ?_)).1
  ·simp [Try.f39,h1,h1_]
  ·simp [h1,h1_]
 ·replace hF:=AaO h1 hF;have h1_:=h1;try simp at h1_
  refine CF (by simp [h1,h1_] <;> omega) ?_;refine SR [] [none,none,none,some (16,false),some (16,false),none,none,some (20,false),some (20,false),none,none] fun _ _ g r=>?_;by_cases h2 : v1<1
  ·replace hF:=AaN h2 hF;have h2_:=h2;try simp at h2_
   have F1:=A4 h1 h1_ h2 h2_;refine TL F1 g r [9] [(13,AV.bool true)] [] [] 0 ?_;refine CT (by simp [F1]) ?_;refine SW F1 [] [none,none] [0,1,13] [(4,Iz 0),(5,Iz 2)] [] [] 0 ?_;simp only [Option.some.injEq,Prod.mk.injEq] at hF;obtain ⟨e0,e1⟩:=hF;subst e0 e1;refine AW.ret (hQ _ _ _ ?_ (AaE ?_)).1
   ·simp [Try.f39,F1]
   ·simp [F1]
  ·replace hF:=AaO h2 hF;have h2_:=h2;try simp at h2_
   by_cases h3 : 2147483648<v1
   ·replace hF:=AaN h3 hF;have h3_:=h3;try simp at h3_
    have F2:=A6 h1 h1_ h2 h2_ h3 h3_;refine TL F2 g r [9] [(13,AV.bool true)] [] [] 0 ?_;refine CT (by simp [F2]) ?_;refine SW F2 [] [none,none] [0,1,13] [(4,Iz 0),(5,Iz 2)] [] [] 0 ?_;simp only [Option.some.injEq,Prod.mk.injEq] at hF;obtain ⟨e0,e1⟩:=hF;subst e0 e1;refine AW.ret (hQ _ _ _ ?_ (AaE ?_)).1
    ·simp [Try.f39,F2]
    ·simp [F2]
   ·replace hF:=AaO h3 hF;have h3_:=h3;try simp at h3_
    have F3:=A6 h1 h1_ h2 h2_ h3 h3_;try simp [F3]
    and_intros
    try any_goals first | omega | (simp [maxLen,F3] <;> omega)
    obtain ⟨v4,h4,hF⟩:=AaH hF;refine AC (AcE k _ _ h4) (.cons (.same (by simp [F3])) (.cons (.same (by simp [F3])) .nil)) ?_;refine TL F3 g r [9] [(13,AV.bool v4)] [] [] 0 ?_;by_cases h5 : v4=true
    ·replace hF:=AaN h5 hF;have h5_:=h5;try simp at h5_
     have F4:=A3 F3 h5 h5_;refine CT (by simp [F4] <;> omega) ?_;refine SW F4 [] [none,none] [0,1,13] [(4,Iz 0),(5,Iz 2)] [] [] 0 ?_;simp only [Option.some.injEq,Prod.mk.injEq] at hF;obtain ⟨e0,e1⟩:=hF;subst e0 e1;refine AW.ret (hQ _ _ _ ?_ (AaE ?_)).1
     ·simp [Try.f39,F4]
     ·simp [F4]
    ·replace hF:=AaO h5 hF;have h5_:=h5;try simp at h5_
     have F5:=A3 F3 h5 h5_;refine CF (by simp [F5] <;> omega) ?_;refine AW.skip ?_;refine hK93 _ _ _ ?_;refine SW F5 [] [none] [13] [(6,Iz 0)] [] [] 0 ?_;refine AW.seq fun K135 hK135=>?_;refine SW F5 [] [none,none,none] [0] [(24,Lz v0),(25,Iz (v0.length : Int)),(26,Iz 0)] [] [] 0 ?_;refine AW.block ?_;refine AW.loopF (α:=(Int×Int)) (fun n (v5,v6)=>Ab4.L1 k v0 v1 n v5 v6=some (v2,v3)) (fun (v5,v6)=>[(1,Iz v1),(6,Iz v5),(24,Lz v0),(25,Iz (v0.length : Int)),(26,Iz v6)]) (fun (v5,v6)=>[]) 0 k ((0,0)) hF (by simp [F5]) (by simp [F5]) (by simp) ?_;rintro (_|n1) ⟨v5,v6⟩ hF K161 hK161
     ·try dsimp only at hF
      rw [Ab4.L1] at hF; cases hF
     try dsimp only at hF
     rw [Ab4.L1] at hF;refine SW F5 [] [none] [] [(27,AV.bool (decide (v6<(v0.length : Int))))] [] [] 0 ?_;refine AW.seq fun K163 hK163=>?_;by_cases h6 : v6<(v0.length : Int)
     ·replace hF:=AaN h6 hF;have h6_:=h6;try simp at h6_
      have F6:=A3 F5 h6 h6_;refine CT (by simp [F6] <;> omega) ?_;refine AW.skip ?_;refine hK163 _ _ _ ?_;refine AW.seq fun K166 hK166=>?_;refine AW.block ?_;refine SR [] [none,none,none] fun _ _ g r=>?_;obtain ⟨v7,h7,h8,h9,hF⟩:=AaM hF;have h9_:=Aaf h9;try simp at h9_
      have h8_:=h8;try simp at h8_
      have F7:=A6 F6 h7 h8 h9 h9_ h8_;refine TL F7 g r [] [(8,Iz v7)] [] [] 0 ?_;refine RG [] [none,none,none,none] fun _ _ g r=>?_;try simp [F7]
      and_intros <;> first | exact GK g | apply r | omega | (simp [maxLen,F7] <;> omega)
      refine hK166 _ _ _ ?_;refine WK [(1,Iz v1),(6,Iz (IntKind.wrap .i64 (v5+v7))),(24,Lz v0),(25,Iz (v0.length : Int)),(26,Iz v6)] [] 0 (by simp [F7]) (by simp [F7]) ?_;refine RG [] [none,none] fun _ _ g r=>?_;try simp [F7]
      and_intros <;> first | exact GK g | apply r | omega | (simp [maxLen,F7] <;> omega)
      refine hK161 _ _ _ ?_;exact NX (k':=n1) ((IntKind.wrap .i64 (v5+v7),IntKind.wrap .i64 (v6+1))) hF (by simp [F7]) (by simp [F7])
     ·replace hF:=AaO h6 hF;have h6_:=h6;try simp at h6_
      have F8:=A3 F5 h6 h6_;refine CF (by simp [F8] <;> omega) ?_;refine AW.exit ?_;try simp
      refine hK135 _ _ _ ?_;refine SR [] [none,none,none,none,none] fun _ _ g r=>?_;obtain ⟨h10,hF⟩:=AaJ hF;have h10_:=h10;try simp at h10_
      have F9:=A3 F8 h10 h10_;refine TL F9 g r [1,6,24,25,26] [(4,Iz (Int.tmod v5 v1)),(5,Iz 0)] [] [] 0 ?_;simp only [Option.some.injEq,Prod.mk.injEq] at hF;obtain ⟨e0,e1⟩:=hF;subst e0 e1;refine AW.ret (hQ _ _ _ ?_ (AaE ?_)).1
      ·simp [Try.f39,F9]
      ·simp [F9]
theorem AeK (k : Nat) (v0 : (List Int)) (v1 : (List Int)) (v2 : (List Int)) (hF : Aa2 k v0 v1=some v2) :
 AbA Try.prog 75 [AV.slc 0 0 1 v0.length false,AV.lst false false (List.map (AV.int .i64) v1)] [.cells (List.map (AV.int .u8) v0)] (AV.slc 1 0 1 v2.length false) [none,some (.cells (List.map (AV.int .u8) v2))]:=by
 unfold Aa2 at hF;refine EN Try.func75 ?_;intro c0 w0 Q h0 hQ
 refine WK [(0,AV.slc 0 0 1 v0.length false),(1,Lz v1)] [(0,.cells (List.map (AV.int .u8) v0))] 1 (by simp) (by simp) ?_;refine SW trivial [] [none] [] [] [] [] 1 ?_;refine AW.seq fun K803 hK803=>?_;refine SW trivial [] [none,none,none] [1] [(8,Lz v1),(9,Iz (v1.length : Int)),(10,Iz 0)] [] [] 1 ?_;refine AW.block ?_;refine AW.rnm (m:=1) h0 [(1,0)] [(0,AV.slc 1 0 1 v0.length false),(8,Lz v1),(9,Iz (v1.length : Int)),(10,Iz 0)] [(1,.cells (List.map (AV.int .u8) v0))] 2 (by decide) (by decide) (by decide) rfl (by simp) (by simp) ?_;refine AW.loopF (α:=(Int×(List Int))) (fun n (v3,v4)=>Aa2.L1 k v1 n v3 v4=some v2) (fun (v3,v4)=>[(0,AV.slc 1 0 1 v4.length false),(8,Lz v1),(9,Iz (v1.length : Int)),(10,Iz v3)]) (fun (v3,v4)=>[(1,.cells (List.map (AV.int .u8) v4))]) 2 k ((0,v0)) hF (by simp) (by simp) (by simp) ?_;rintro (_|n1) ⟨v3,v4⟩ hF K1003 hK1003
 ·try dsimp only at hF
  rw [Aa2.L1] at hF; cases hF
 try dsimp only at hF
 rw [Aa2.L1] at hF;refine SW trivial [] [none] [] [(11,AV.bool (decide (v3<(v1.length : Int))))] [] [] 2 ?_;refine AW.seq fun K1005 hK1005=>?_;by_cases h1 : v3<(v1.length : Int)
 ·replace hF:=AaN h1 hF;have h1_:=h1;try simp at h1_
  refine CT (by simp [h1,h1_] <;> omega) ?_;refine AW.skip ?_;refine hK1005 _ _ _ ?_;refine AW.seq fun K1037 hK1037=>?_;refine AW.block ?_;refine SR [] [none,none,none] fun _ _ g r=>?_;obtain ⟨v5,h2,h3,h4,hF⟩:=AaM hF;have h4_:=Aaf h4;try simp at h4_
  have h3_:=h3;try simp at h3_
  have F1:=A7 h1 h1_ h2 h3 h4 h4_ h3_;refine TL F1 g r [] [(6,Iz v5)] [] [] 2 ?_;refine SW F1 [] [none] [] [(7,Iz 56)] [] [] 2 ?_;refine AW.block ?_;refine AW.loopF (α:=(Int×(List Int))) (fun n (v6,v7)=>Aa2.L2 k v3 v5 (fun v3_ v4_=>Aa2.L1 k v1 n1 v3_ v4_) n v6 v7=some v2) (fun (v6,v7)=>[(0,AV.slc 1 0 1 v7.length false),(6,Iz v5),(7,Iz v6),(8,Lz v1),(9,Iz (v1.length : Int)),(10,Iz v3)]) (fun (v6,v7)=>[(1,.cells (List.map (AV.int .u8) v7))]) 2 k ((56,v4)) hF (by simp [F1]) (by simp [F1]) (by simp) ?_;rintro (_|n2) ⟨v6,v7⟩ hF K1061 hK1061
  ·try dsimp only at hF
   rw [Aa2.L2] at hF; cases hF
  try dsimp only at hF
  rw [Aa2.L2] at hF;refine AW.seq fun K1063 hK1063=>?_;refine SW F1 [] [none,none] [] [(15,AV.bool (decide (0≤v6)))] [] [] 2 ?_;by_cases h5 : 0≤v6
  ·replace hF:=AaN h5 hF;have h5_:=h5;try simp at h5_
   have F2:=A3 F1 h5 h5_;refine CT (by simp [F2] <;> omega) ?_;refine AW.skip ?_;refine hK1063 _ _ _ ?_;refine AW.seq fun K1066 hK1066=>?_;refine AW.block ?_;refine RG [] [none,none,none,none,none,none,none,none,none] fun _ _ g r=>?_;obtain ⟨h6,hF⟩:=AaJ hF;obtain ⟨h7,hF⟩:=AaJ hF;have h7_:=h7;try simp at h7_
   have F3:=A3 F2 h6 h7;try simp [F3]
   and_intros <;> first | exact GK g | apply r | omega | (simp [maxLen,F3] <;> omega)
   refine hK1066 _ _ _ ?_;refine WK [(0,AV.slc 2 0 1 ((v7++([IntKind.wrap .u8 (Int.fdiv (IntKind.wrap .u64 v5) (2 ^ (min v6.toNat 64)))] : List Int)).length) false),(6,Iz v5),(7,Iz v6),(8,Lz v1),(9,Iz (v1.length : Int)),(10,Iz v3)] [(2,.cells (List.map (AV.int .u8) (v7++([IntKind.wrap .u8 (Int.fdiv (IntKind.wrap .u64 v5) (2 ^ (min v6.toNat 64)))] : List Int))))] 3 (by simp [F3] <;> omega) (by simp [F3]) ?_;refine RG [] [none,none,none] fun _ _ g r=>?_;try simp [F3]
   and_intros <;> first | exact GK g | apply r | omega | (simp [maxLen,F3] <;> omega)
   refine hK1061 _ _ _ ?_;refine Can.weak [(0,AV.slc 2 0 1 ((v7++([IntKind.wrap .u8 (Int.fdiv (IntKind.wrap .u64 v5) (2 ^ (min v6.toNat 64)))] : List Int)).length) false),(6,Iz v5),(7,Iz (IntKind.wrap .i64 (v6-8))),(8,Lz v1),(9,Iz (v1.length : Int)),(10,Iz v3)] [(2,.cells (List.map (AV.int .u8) (v7++([IntKind.wrap .u8 (Int.fdiv (IntKind.wrap .u64 v5) (2 ^ (min v6.toNat 64)))] : List Int))))] 3 (by simp [F3] <;> omega) (by simp [F3]) (by simp) ?_;refine Can.ren (m:=1) h0 [(1,2)] [(0,AV.slc 1 0 1 ((v7++([IntKind.wrap .u8 (Int.fdiv (IntKind.wrap .u64 v5) (2 ^ (min v6.toNat 64)))] : List Int)).length) false),(6,Iz v5),(7,Iz (IntKind.wrap .i64 (v6-8))),(8,Lz v1),(9,Iz (v1.length : Int)),(10,Iz v3)] [(1,.cells (List.map (AV.int .u8) (v7++([IntKind.wrap .u8 (Int.fdiv (IntKind.wrap .u64 v5) (2 ^ (min v6.toNat 64)))] : List Int))))] 2 (by decide) (by decide) (by decide) rfl (by simp [F3]) (by simp [F3]) ?_;exact NX (k':=n2) ((IntKind.wrap .i64 (v6-8),v7++([IntKind.wrap .u8 (Int.fdiv (IntKind.wrap .u64 v5) (2 ^ (min v6.toNat 64)))] : List Int))) hF (by simp [F3]) (by simp [F3])
  ·replace hF:=AaO h5 hF;have h5_:=h5;try simp at h5_
   have F4:=A3 F1 h5 h5_;refine CF (by simp [F4] <;> omega) ?_;refine AW.exit ?_;try simp
   refine hK1037 _ _ _ ?_;refine RG [] [none,none] fun _ _ g r=>?_;try simp [F4]
   and_intros <;> first | exact GK g | apply r | omega | (simp [maxLen,F4] <;> omega)
   refine hK1003 _ _ _ ?_;exact NX (k':=n1) ((IntKind.wrap .i64 (v3+1),v7)) hF (by simp [F4]) (by simp [F4])
 ·replace hF:=AaO h1 hF;have h1_:=h1;try simp at h1_
  refine CF (by simp [h1,h1_] <;> omega) ?_;refine AW.exit ?_;try simp
  refine hK803 _ _ _ ?_;refine SW (A2 h1 h1_) [] [none,none] [0,8,9,10] [(4,AV.slc 1 0 1 v4.length false)] [] [] 2 ?_;simp only [Option.some.injEq] at hF;subst hF;refine AW.ret (hQ _ _ _ ?_ (AaE ?_)).1
  ·simp [Try.f75,h1,h1_]
  ·simp [h1,h1_]
theorem Agl (k : Nat) (v0 : (List Int)) (v1 : (List Int)) (v2 : (List Int)) (hF : AeY k v0 v1=some v2) :
 AbA Try.prog 43 [AV.slc 0 0 1 v0.length false,AV.lst false false (List.map (AV.int .i64) v1)] [.cells (List.map (AV.int .u8) v0)] (AV.slc 1 0 1 v2.length false) [none,some (.cells (List.map (AV.int .u8) v2))]:=by
 unfold AeY at hF;refine EN Try.func43 ?_;intro c0 w0 Q h0 hQ
 refine WK [(0,AV.slc 0 0 1 v0.length false),(1,Lz v1)] [(0,.cells (List.map (AV.int .u8) v0))] 1 (by simp) (by simp) ?_;refine SW trivial [] [none] [] [] [] [] 1 ?_;refine SR [] [none,none,none,none,none,none,none,none] fun _ _ g r=>?_;try simp
 and_intros
 try any_goals first | omega | (simp [maxLen] <;> omega)
 obtain ⟨v3,h1,hF⟩:=AaH hF;refine Aa6 (AeK k _ _ _ h1) (by simp) [0] [] [0] rfl (.cons (.same (by simp)) (.cons (Coe.fl (by simp)) .nil)) (by simp) (by decide) (by simp) (by simp) (.inl rfl) (by simp) (by simp) ?_;try simp
 and_intros
 try any_goals first | omega | (simp [maxLen] <;> omega)
 obtain ⟨v4,h2,hF⟩:=AaH hF;refine Aa6 (AeK k _ _ _ h2) (by simp) [1] [] [1] rfl (.cons (.same (by simp)) (.cons (.same (by simp)) .nil)) (by simp) (by decide) (by simp) (by simp) (.inl rfl) (by simp) (by simp) ?_;refine TL trivial g r [0,1] [(4,AV.slc 2 0 1 v4.length false)] [0] [(2,.cells (List.map (AV.int .u8) v4))] 3 ?_;refine AW.rnm (m:=1) h0 [(1,2)] [(4,AV.slc 1 0 1 v4.length false)] [(1,.cells (List.map (AV.int .u8) v4))] 2 (by decide) (by decide) (by decide) rfl (by simp) (by simp) ?_;simp only [Option.some.injEq] at hF;subst hF;refine AW.ret (hQ _ _ _ ?_ (AaE ?_)).1
 ·simp [Try.f43]
 ·simp
theorem Ae7 (k : Nat) (v0 : (List Int)) (v1 : (List Int)) (v2 : (List Int)) (hF : AaL k v0 v1=some v2) :
 AbA Try.prog 75 [AV.lst false true (List.map (AV.int .u8) v0),AV.lst false false (List.map (AV.int .i64) v1)] [] (AV.lst false false (List.map (AV.int .u8) v2)) []:=by
 unfold AaL at hF;refine EN Try.func75 ?_;intro c0 w0 Q h0 hQ
 refine WK [(0,AV.lst false true (List.map (AV.int .u8) v0)),(1,Lz v1)] [] 0 (by simp) (by simp) ?_;refine SW trivial [] [none] [] [] [] [] 0 ?_;refine AW.midF (α:=(List Int)) (fun v3=>AaL.J1 k v3=some v2) (fun v3=>[(0,Lb v3)]) (fun v3=>[]) 0 (fun K1101 hK1101=>?_) ?_
 ·refine SW trivial [] [none,none,none] [1] [(8,Lz v1),(9,Iz (v1.length : Int)),(10,Iz 0)] [] [] 0 ?_;refine AW.block ?_;refine AW.loopF (α:=Option (Int×(List Int))) (fun n o=>match o with | none=>AaL.P4 k v0 v1 n=some v2 | some (v4,v5)=>AaL.L2 k v1 n v4 v5=some v2) (fun o=>match o with | none=>[(0,AV.lst false true (List.map (AV.int .u8) v0)),(8,Lz v1),(9,Iz (v1.length : Int)),(10,Iz 0)] | some (v4,v5)=>[(0,AV.slc 0 0 1 v5.length false),(8,Lz v1),(9,Iz (v1.length : Int)),(10,Iz v4)]) (fun o=>match o with | none=>[] | some (v4,v5)=>[(0,.grow (List.map (AV.int .u8) v5))]) 1 k none hF (by simp) (by simp) (by simp) ?_;rintro (_|n2) (_|⟨v4,v5⟩) hF K1317 hK1317
  ·try dsimp only at hF
   rw [AaL.P4] at hF; cases hF
  ·try dsimp only at hF
   rw [AaL.L2] at hF; cases hF
  ·try dsimp only at hF
   rw [AaL.P4] at hF;refine SQ [] [none] fun _ _ g r=>?_;try simp
   and_intros <;> first | exact GK g | apply r | omega | (simp [maxLen] <;> omega)
   refine WK [(0,AV.lst false true (List.map (AV.int .u8) v0)),(8,Lz v1),(9,Iz (v1.length : Int)),(10,Iz 0),(11,AV.bool (decide (0<(v1.length : Int))))] [] 1 (by simp) (by simp) ?_;refine AW.seq fun K1386 hK1386=>?_;by_cases h8 : 0<(v1.length : Int)
   ·replace hF:=AaN h8 hF;have h8_:=h8;try simp at h8_
    refine CT (by simp [h8,h8_] <;> omega) ?_;refine AW.skip ?_;refine hK1386 _ _ _ ?_;refine AW.seq fun K1426 hK1426=>?_;refine AW.block ?_;refine SR [] [none,none,none] fun _ _ g r=>?_;obtain ⟨v9,h9,h10,h11,hF⟩:=AaM hF;have h11_:=Aaf h11;try simp at h11_
    have h10_:=h10;try simp at h10_
    have h11z:=Afv h11;have F1:=A8 h8 h8_ h9 h10 h11 h11_ h10_ h11z;refine TL F1 g r [11] [(6,Iz v9)] [] [] 1 ?_;refine SW F1 [] [none] [] [(7,Iz 56)] [] [] 1 ?_;refine AW.block ?_;refine AW.loopF (α:=Option (Int×(List Int))) (fun n o=>match o with | none=>AaL.P6 k v0 v9 (fun v4_ v5_=>AaL.L2 k v1 n2 v4_ v5_) n=some v2 | some (v10,v11)=>AaL.L5 k v9 (fun v4_ v5_=>AaL.L2 k v1 n2 v4_ v5_) n v10 v11=some v2) (fun o=>match o with | none=>[(0,AV.lst false true (List.map (AV.int .u8) v0)),(6,Iz v9),(7,Iz 56),(8,Lz v1),(9,Iz (v1.length : Int)),(10,Iz 0)] | some (v10,v11)=>[(0,AV.slc 0 0 1 v11.length false),(6,Iz v9),(7,Iz v10),(8,Lz v1),(9,Iz (v1.length : Int)),(10,Iz 0)]) (fun o=>match o with | none=>[] | some (v10,v11)=>[(0,.grow (List.map (AV.int .u8) v11))]) 1 k none hF (by simp [F1]) (by simp [F1]) (by simp) ?_;rintro (_|n5) (_|⟨v10,v11⟩) hF K1450 hK1450
    ·try dsimp only at hF
     rw [AaL.P6] at hF; cases hF
    ·try dsimp only at hF
     rw [AaL.L5] at hF; cases hF
    ·try dsimp only at hF
     rw [AaL.P6] at hF;refine AW.seq fun K1461 hK1461=>?_;refine SQ [] [none,none] fun _ _ g r=>?_;try simp [F1]
     and_intros <;> first | exact GK g | apply r | omega | (simp [maxLen,F1] <;> omega)
     refine WK [(0,AV.lst false true (List.map (AV.int .u8) v0)),(6,Iz v9),(7,Iz 56),(8,Lz v1),(9,Iz (v1.length : Int)),(10,Iz 0),(15,AV.bool true)] [] 1 (by simp [F1]) (by simp [F1]) ?_;refine CT (by simp [F1]) ?_;refine AW.skip ?_;refine hK1461 _ _ _ ?_;refine AW.seq fun K1464 hK1464=>?_;refine AW.block ?_;refine RG [25,1000025] [none,none,none,none,none,none,none,none,none] fun _ _ g r=>?_;obtain ⟨h15,hF⟩:=AaJ hF;have h15_:=h15;try simp at h15_
     have F2:=A2 F1 h15;try simp [F2]
     and_intros <;> first | exact GK g | apply r | omega | (simp [maxLen,F2] <;> omega)
     refine hK1464 _ _ _ ?_;refine WK [(0,AV.slc 1 0 1 ((v0++([IntKind.wrap .u8 (Int.fdiv (IntKind.wrap .u64 v9) (2 ^ (56)))] : List Int)).length) false),(6,Iz v9),(7,Iz 56),(8,Lz v1),(9,Iz (v1.length : Int)),(10,Iz 0)] [(1,.grow (List.map (AV.int .u8) (v0++([IntKind.wrap .u8 (Int.fdiv (IntKind.wrap .u64 v9) (2 ^ (56)))] : List Int))))] 2 (by simp [F2] <;> omega) (by simp [F2]) ?_;refine RG [] [none,none,none] fun _ _ g r=>?_;try simp [F2]
     and_intros <;> first | exact GK g | apply r | omega | (simp [maxLen,F2] <;> omega)
     refine hK1450 _ _ _ ?_;refine RN h0 [(0,1)] [(0,AV.slc 0 0 1 ((v0++([IntKind.wrap .u8 (Int.fdiv (IntKind.wrap .u64 v9) (2 ^ (56)))] : List Int)).length) false),(6,Iz v9),(7,Iz (IntKind.wrap .i64 (56-8))),(8,Lz v1),(9,Iz (v1.length : Int)),(10,Iz 0)] [(0,.grow (List.map (AV.int .u8) (v0++([IntKind.wrap .u8 (Int.fdiv (IntKind.wrap .u64 v9) (2 ^ (56)))] : List Int))))] 1 (by simp [F2] <;> omega) (by simp [F2]) ?_;exact NX (k':=n5) (some (IntKind.wrap .i64 (56-8),v0++([IntKind.wrap .u8 (Int.fdiv (IntKind.wrap .u64 v9) (2 ^ (56)))] : List Int))) hF (by simp [F2]) (by simp [F2])
    ·try dsimp only at hF
     rw [AaL.L5] at hF;refine AW.seq fun K1452 hK1452=>?_;refine SQ [] [none,none] fun _ _ g r=>?_;try simp [F1]
     and_intros <;> first | exact GK g | apply r | omega | (simp [maxLen,F1] <;> omega)
     refine WK [(0,AV.slc 0 0 1 v11.length false),(6,Iz v9),(7,Iz v10),(8,Lz v1),(9,Iz (v1.length : Int)),(10,Iz 0),(15,AV.bool (decide (0≤v10)))] [(0,.grow (List.map (AV.int .u8) v11))] 1 (by simp [F1]) (by simp [F1]) ?_;by_cases h12 : 0≤v10
     ·replace hF:=AaN h12 hF;have h12_:=h12;try simp at h12_
      have F3:=A3 F1 h12 h12_;refine CT (by simp [F3] <;> omega) ?_;refine AW.skip ?_;refine hK1452 _ _ _ ?_;refine AW.seq fun K1455 hK1455=>?_;refine AW.block ?_;refine RG [] [none,none,none,none,none,none,none,none,none] fun _ _ g r=>?_;obtain ⟨h13,hF⟩:=AaJ hF;obtain ⟨h14,hF⟩:=AaJ hF;have h14_:=h14;try simp at h14_
      have F4:=A3 F3 h13 h14;try simp [F4]
      and_intros <;> first | exact GK g | apply r | omega | (simp [maxLen,F4] <;> omega)
      refine hK1455 _ _ _ ?_;refine WK [(0,AV.slc 1 0 1 ((v11++([IntKind.wrap .u8 (Int.fdiv (IntKind.wrap .u64 v9) (2 ^ (min v10.toNat 64)))] : List Int)).length) false),(6,Iz v9),(7,Iz v10),(8,Lz v1),(9,Iz (v1.length : Int)),(10,Iz 0)] [(1,.grow (List.map (AV.int .u8) (v11++([IntKind.wrap .u8 (Int.fdiv (IntKind.wrap .u64 v9) (2 ^ (min v10.toNat 64)))] : List Int))))] 2 (by simp [F4] <;> omega) (by simp [F4]) ?_;refine RG [] [none,none,none] fun _ _ g r=>?_;try simp [F4]
      and_intros <;> first | exact GK g | apply r | omega | (simp [maxLen,F4] <;> omega)
      refine hK1450 _ _ _ ?_;refine RN h0 [(0,1)] [(0,AV.slc 0 0 1 ((v11++([IntKind.wrap .u8 (Int.fdiv (IntKind.wrap .u64 v9) (2 ^ (min v10.toNat 64)))] : List Int)).length) false),(6,Iz v9),(7,Iz (IntKind.wrap .i64 (v10-8))),(8,Lz v1),(9,Iz (v1.length : Int)),(10,Iz 0)] [(0,.grow (List.map (AV.int .u8) (v11++([IntKind.wrap .u8 (Int.fdiv (IntKind.wrap .u64 v9) (2 ^ (min v10.toNat 64)))] : List Int))))] 1 (by simp [F4] <;> omega) (by simp [F4]) ?_;exact NX (k':=n5) (some ((IntKind.wrap .i64 (v10-8),v11++([IntKind.wrap .u8 (Int.fdiv (IntKind.wrap .u64 v9) (2 ^ (min v10.toNat 64)))] : List Int)))) hF (by simp [F4]) (by simp [F4])
     ·replace hF:=AaO h12 hF;have h12_:=h12;try simp at h12_
      have F5:=A3 F1 h12 h12_;refine CF (by simp [F5] <;> omega) ?_;refine AW.exit ?_;try simp
      refine hK1426 _ _ _ ?_;refine RG [] [none,none] fun _ _ g r=>?_;try simp [F5]
      and_intros <;> first | exact GK g | apply r | omega | (simp [maxLen,F5] <;> omega)
      refine hK1317 _ _ _ ?_;exact NX (k':=n2) (some (IntKind.wrap .i64 (0+1),v11)) hF (by simp [F5]) (by simp [F5])
   ·replace hF:=AaO h8 hF;have h8_:=h8;try simp at h8_
    refine CF (by simp [h8,h8_] <;> omega) ?_;refine AW.exit ?_;try simp
    refine hK1101 _ _ _ ?_;refine RN h0 [] [(0,AV.lst false true (List.map (AV.int .u8) v0))] [] 0 (by simp [h8,h8_]) (by simp [h8,h8_]) ?_;refine Can.flg [(0,Lb v0)] [] ⟨(.lst (by simp)),trivial⟩ trivial (by simp) ?_;exact JN (v0) hF (by simp [h8,h8_]) (by simp [h8,h8_])
  ·try dsimp only at hF
   rw [AaL.L2] at hF;refine SQ [] [none] fun _ _ g r=>?_;try simp
   and_intros <;> first | exact GK g | apply r | omega | (simp [maxLen] <;> omega)
   refine WK [(0,AV.slc 0 0 1 v5.length false),(8,Lz v1),(9,Iz (v1.length : Int)),(10,Iz v4),(11,AV.bool (decide (v4<(v1.length : Int))))] [(0,.grow (List.map (AV.int .u8) v5))] 1 (by simp) (by simp) ?_;refine AW.seq fun K1319 hK1319=>?_;by_cases h1 : v4<(v1.length : Int)
   ·replace hF:=AaN h1 hF;have h1_:=h1;try simp at h1_
    refine CT (by simp [h1,h1_] <;> omega) ?_;refine AW.skip ?_;refine hK1319 _ _ _ ?_;refine AW.seq fun K1351 hK1351=>?_;refine AW.block ?_;refine SR [] [none,none,none] fun _ _ g r=>?_;obtain ⟨v6,h2,h3,h4,hF⟩:=AaM hF;have h4_:=Aaf h4;try simp at h4_
    have h3_:=h3;try simp at h3_
    have F6:=A7 h1 h1_ h2 h3 h4 h4_ h3_;refine TL F6 g r [11] [(6,Iz v6)] [] [] 1 ?_;refine SW F6 [] [none] [] [(7,Iz 56)] [] [] 1 ?_;refine AW.block ?_;refine AW.loopF (α:=(Int×(List Int))) (fun n (v7,v8)=>AaL.L3 k v4 v6 (fun v4_ v5_=>AaL.L2 k v1 n2 v4_ v5_) n v7 v8=some v2) (fun (v7,v8)=>[(0,AV.slc 0 0 1 v8.length false),(6,Iz v6),(7,Iz v7),(8,Lz v1),(9,Iz (v1.length : Int)),(10,Iz v4)]) (fun (v7,v8)=>[(0,.grow (List.map (AV.int .u8) v8))]) 1 k ((56,v5)) hF (by simp [F6]) (by simp [F6]) (by simp) ?_;rintro (_|n3) ⟨v7,v8⟩ hF K1375 hK1375
    ·try dsimp only at hF
     rw [AaL.L3] at hF; cases hF
    try dsimp only at hF
    rw [AaL.L3] at hF;refine AW.seq fun K1377 hK1377=>?_;refine SW F6 [] [none,none] [] [(15,AV.bool (decide (0≤v7)))] [] [] 1 ?_;by_cases h5 : 0≤v7
    ·replace hF:=AaN h5 hF;have h5_:=h5;try simp at h5_
     have F7:=A3 F6 h5 h5_;refine CT (by simp [F7] <;> omega) ?_;refine AW.skip ?_;refine hK1377 _ _ _ ?_;refine AW.seq fun K1380 hK1380=>?_;refine AW.block ?_;refine RG [] [none,none,none,none,none,none,none,none,none] fun _ _ g r=>?_;obtain ⟨h6,hF⟩:=AaJ hF;obtain ⟨h7,hF⟩:=AaJ hF;have h7_:=h7;try simp at h7_
     have F8:=A3 F7 h6 h7;try simp [F8]
     and_intros <;> first | exact GK g | apply r | omega | (simp [maxLen,F8] <;> omega)
     refine hK1380 _ _ _ ?_;refine WK [(0,AV.slc 1 0 1 ((v8++([IntKind.wrap .u8 (Int.fdiv (IntKind.wrap .u64 v6) (2 ^ (min v7.toNat 64)))] : List Int)).length) false),(6,Iz v6),(7,Iz v7),(8,Lz v1),(9,Iz (v1.length : Int)),(10,Iz v4)] [(1,.grow (List.map (AV.int .u8) (v8++([IntKind.wrap .u8 (Int.fdiv (IntKind.wrap .u64 v6) (2 ^ (min v7.toNat 64)))] : List Int))))] 2 (by simp [F8] <;> omega) (by simp [F8]) ?_;refine RG [] [none,none,none] fun _ _ g r=>?_;try simp [F8]
     and_intros <;> first | exact GK g | apply r | omega | (simp [maxLen,F8] <;> omega)
     refine hK1375 _ _ _ ?_;refine RN h0 [(0,1)] [(0,AV.slc 0 0 1 ((v8++([IntKind.wrap .u8 (Int.fdiv (IntKind.wrap .u64 v6) (2 ^ (min v7.toNat 64)))] : List Int)).length) false),(6,Iz v6),(7,Iz (IntKind.wrap .i64 (v7-8))),(8,Lz v1),(9,Iz (v1.length : Int)),(10,Iz v4)] [(0,.grow (List.map (AV.int .u8) (v8++([IntKind.wrap .u8 (Int.fdiv (IntKind.wrap .u64 v6) (2 ^ (min v7.toNat 64)))] : List Int))))] 1 (by simp [F8] <;> omega) (by simp [F8]) ?_;exact NX (k':=n3) ((IntKind.wrap .i64 (v7-8),v8++([IntKind.wrap .u8 (Int.fdiv (IntKind.wrap .u64 v6) (2 ^ (min v7.toNat 64)))] : List Int))) hF (by simp [F8]) (by simp [F8])
    ·replace hF:=AaO h5 hF;have h5_:=h5;try simp at h5_
     have F9:=A3 F6 h5 h5_;refine CF (by simp [F9] <;> omega) ?_;refine AW.exit ?_;try simp
     refine hK1351 _ _ _ ?_;refine RG [] [none,none] fun _ _ g r=>?_;try simp [F9]
     and_intros <;> first | exact GK g | apply r | omega | (simp [maxLen,F9] <;> omega)
     refine hK1317 _ _ _ ?_;exact NX (k':=n2) (some ((IntKind.wrap .i64 (v4+1),v8))) hF (by simp [F9]) (by simp [F9])
   ·replace hF:=AaO h1 hF;have h1_:=h1;try simp at h1_
    refine CF (by simp [h1,h1_] <;> omega) ?_;refine AW.exit ?_;try simp
    refine hK1101 _ _ _ ?_;refine Can.freeze 0 (o := .grow (List.map (AV.int .u8) v5)) (by simp [h1,h1_]) rfl [(0,Lb v5)] [] ⟨(.l (by simp) (by simp) (by simp) (by simp)),trivial⟩ trivial ?_;refine RN h0 [] [(0,Lb v5)] [] 0 (by simp [h1,h1_]) (by simp [h1,h1_]) ?_;exact JN (v5) hF (by simp [h1,h1_]) (by simp [h1,h1_])
 ·rintro v3 hF
  try dsimp only at hF
  unfold AaL.J1 at hF;refine SW trivial [] [none,none] [0] [(4,Lb v3)] [] [] 0 ?_;simp only [Option.some.injEq] at hF;subst hF;refine AW.ret (hQ _ _ _ ?_ (AaE ?_)).1
  ·simp [Try.f75]
  ·simp
theorem Afe (k : Nat) (v0 : (List Int)) (hF : Acm k=some v0) :
 AbA Try.prog 76 [] [] (AV.agg (List.map (AV.int .u32) v0)) []:=by
 unfold Acm at hF;refine EN Try.func76 ?_;intro c0 w0 Q h0 hQ
 refine WK [] [] 0 (by simp) (by simp) ?_;refine SW trivial [] [none] [] [(0,AV.ptr 0 0)] [] [(0,.cells (List.map (AV.int .u32) (List.replicate 64 0)))] 1 ?_;refine SR [] [none,none] fun _ _ g r=>?_;obtain ⟨h1,hF⟩:=AaJ hF;refine TL h1 g r [] [] [0] [(0,.cells (List.map (AV.int .u32) ([1116352408,1899447441,3049323471,3921009573,961987163,1508970993,2453635748,2870763221,3624381080,310598401,607225278,1426881987,1925078388,2162078206,2614888103,3248222580,3835390401,4022224774,264347078,604807628,770255983,1249150122,1555081692,1996064986,2554220882,2821834349,2952996808,3210313671,3336571891,3584528711,113926993,338241895,666307205,773529912,1294757372,1396182291,1695183700,1986661051,2177026350,2456956037,2730485921,2820302411,3259730800,3345764771,3516065817,3600352804,4094571909,275423344,430227734,506948616,659060556,883997877,958139571,1322822218,1537002063,1747873779,1955562222,2024104815,2227730452,2361852424,2428436474,2756734187,3204031479,3329325298] : List Int)))] 1 ?_;obtain ⟨h2,hF⟩:=AaJ hF;have h2_:=AdR h2 (by decide);simp only [Option.some.injEq] at hF;subst hF;refine AW.ret (hQ _ _ _ ?_ (AaE ?_)).1
 ·have F1:=A3 h1 h2 h2_;simp [Try.f76,F1]
 ·have F2:=A3 h1 h2 h2_;simp [F2]
theorem AdK (k : Nat) (v0 : Int) (v1 : Int) (v2 : Int) (hF : Aaa k v0 v1=some v2) :
 AbA Try.prog 112 [AV.int .u32 v0,AV.int .i64 v1] [] (AV.int .u32 v2) []:=by
 unfold Aaa at hF;refine EN Try.func112 ?_;intro c0 w0 Q h0 hQ
 refine WK [(0,AV.int .u32 v0),(1,Iz v1)] [] 0 (by simp) (by simp) ?_;refine SW trivial [] [none] [] [] [] [] 0 ?_;refine SW trivial [] [none,none,none,none] [1] [(5,AV.int .u64 (AaF .and .u64 (IntKind.wrap .u64 v1) 31))] [] [] 0 ?_;refine SR [] [none,none,none,none,none,none,none,none,none] fun _ _ g r=>?_;obtain ⟨h1,hF⟩:=AaJ hF;obtain ⟨h2,hF⟩:=AaJ hF;refine TL (A2 h1 h2) g r [0,5] [(4,AV.int .u32 (AaF .or .u32 (IntKind.wrap .u32 (v0*2 ^ (min ((AaF .and .u64 (IntKind.wrap .u64 v1) 31).toNat) 32))) (Int.fdiv v0 (2 ^ (min ((IntKind.wrap .u64 (32-AaF .and .u64 (IntKind.wrap .u64 v1) 31)).toNat) 32)))))] [] [] 0 ?_;simp only [Option.some.injEq] at hF;subst hF;refine AW.ret (hQ _ _ _ ?_ (AaE ?_)).1
 ·simp [Try.f112,h1,h2]
 ·simp [h1,h2]
theorem Aam (k : Nat) (v0 : Int) (v1 : Int) (v2 : Int) (hF : AaI k v0 v1=some v2) :
 AbA Try.prog 111 [AV.int .u32 v0,AV.int .i64 v1] [] (AV.int .u32 v2) []:=by
 unfold AaI at hF;refine EN Try.func111 ?_;intro c0 w0 Q h0 hQ
 refine WK [(0,AV.int .u32 v0),(1,Iz v1)] [] 0 (by simp) (by simp) ?_;refine SW trivial [] [none] [] [] [] [] 0 ?_;obtain ⟨v3,h1,hF⟩:=AaH hF;refine CL trivial [] [none,none,none,none,none] (AdK k _ _ _ h1) [0,1] [(4,AV.int .u32 v3)] [] [] 0 ?_;simp only [Option.some.injEq] at hF;subst hF;refine AW.ret (hQ _ _ _ ?_ (AaE ?_)).1
 ·simp [Try.f111]
 ·simp
theorem AeE (k : Nat) (v0 : (List Int)) (v1 : (List Int)) (v2 : (List Int)) (v3 : (List Int)) (hF : AaG k v0 v1 v2=some v3) :
 AbA Try.prog 77 [AV.ptr 0 0,AV.lst false false (List.map (AV.int .u8) v1),AV.ptr 1 0] [.cells (List.map (AV.int .u32) v0),.cells (List.map (AV.int .u32) v2)] (AV.tup []) [some (.cells (List.map (AV.int .u32) v3)),some (.cells (List.map (AV.int .u32) v2))]:=by
 unfold AaG at hF;refine EN Try.func77 ?_;intro c0 w0 Q h0 hQ
 refine WK [(0,AV.ptr 0 0),(1,Lb v1),(2,AV.ptr 1 0)] [(0,.cells (List.map (AV.int .u32) v0)),(1,.cells (List.map (AV.int .u32) v2))] 2 (by simp) (by simp) ?_;refine SW trivial [] [none] [] [(6,AV.ptr 2 0)] [] [(2,.cells (List.map (AV.int .u32) (List.replicate 64 0)))] 3 ?_;refine AW.seq fun K336 hK336=>?_;refine SW trivial [] [none] [] [(19,Iz 0)] [] [] 3 ?_;refine AW.block ?_;refine AW.loopF (α:=(Int×(List Int))) (fun n (v4,v5)=>AaG.L1 k v0 v1 v2 n v4 v5=some v3) (fun (v4,v5)=>[(0,AV.ptr 0 0),(1,Lb v1),(2,AV.ptr 1 0),(6,AV.ptr 2 0),(19,Iz v4)]) (fun (v4,v5)=>[(0,.cells (List.map (AV.int .u32) v0)),(1,.cells (List.map (AV.int .u32) v2)),(2,.cells (List.map (AV.int .u32) v5))]) 3 k ((0,(List.replicate 64 0))) hF (by simp) (by simp) (by simp) ?_;rintro (_|n1) ⟨v4,v5⟩ hF K362 hK362
 ·try dsimp only at hF
  rw [AaG.L1] at hF; cases hF
 try dsimp only at hF
 rw [AaG.L1] at hF;refine SW trivial [] [none] [] [(20,AV.bool (decide (v4<16)))] [] [] 3 ?_;refine AW.seq fun K364 hK364=>?_;by_cases h1 : v4<16
 ·replace hF:=AaN h1 hF;have h1_:=h1;try simp at h1_
  refine CT (by simp [h1,h1_] <;> omega) ?_;refine AW.skip ?_;refine hK364 _ _ _ ?_;refine AW.seq fun K367 hK367=>?_;refine AW.block ?_;refine SW (A2 h1 h1_) [] [none,none] [] [(7,Iz v4)] [] [] 3 ?_;refine RG [] [none,none,none,none,none,none,none,none,none,none,none,none,none,none,none,none,none,none,none,none,none,none,none,none,none,none,none,none,none,none,none,none,none,none,none,none] fun _ _ g r=>?_;obtain ⟨v6,h2,h3,h4,hF⟩:=AaM hF;have h4_:=Aaf h4;try simp at h4_
  have h3_:=h3;try simp at h3_
  obtain ⟨v7,h5,h6,h7,hF⟩:=AaM hF;have h7_:=Aaf h7;try simp at h7_
  have h6_:=h6;try simp at h6_
  obtain ⟨v8,h8,h9,h10,hF⟩:=AaM hF;have h10_:=Aaf h10;try simp at h10_
  have h9_:=h9;try simp at h9_
  obtain ⟨v9,h11,h12,h13,hF⟩:=AaM hF;have h13_:=Aaf h13;try simp at h13_
  have h12_:=h12;try simp at h12_
  obtain ⟨⟨h14,h16,h15⟩,hF⟩:=AaJ hF;have h15_:=Aal h15;have F1:=A9 h1 h1_ h2 h3 h4 h4_ h3_ h5 (A9 h6 h7 h7_ h6_ h8 h9 h10 h10_ (A9 h9_ h11 h12 h13 h13_ h12_ h14 h15 (A2 h16 h15_)));try simp [F1]
  and_intros <;> first | exact GK g | apply r | omega | (simp [maxLen,F1] <;> omega)
  refine hK367 _ _ _ ?_;refine WK [(0,AV.ptr 0 0),(1,Lb v1),(2,AV.ptr 1 0),(6,AV.ptr 2 0),(19,Iz v4)] [(0,.cells (List.map (AV.int .u32) v0)),(1,.cells (List.map (AV.int .u32) v2)),(2,.cells (List.map (AV.int .u32) (v5.set (v4).toNat (AaF .or .u32 (AaF .or .u32 (AaF .or .u32 (IntKind.wrap .u32 ((IntKind.wrap .u32 v6)*2 ^ (24))) (IntKind.wrap .u32 ((IntKind.wrap .u32 v7)*2 ^ (16)))) (IntKind.wrap .u32 ((IntKind.wrap .u32 v8)*2 ^ (8)))) (IntKind.wrap .u32 v9)))))] 3 (by simp [F1]) (by simp [F1]) ?_;refine RG [] [none,none] fun _ _ g r=>?_;try simp [F1]
  and_intros <;> first | exact GK g | apply r | omega | (simp [maxLen,F1] <;> omega)
  refine hK362 _ _ _ ?_;exact NX (k':=n1) ((IntKind.wrap .i64 (v4+1),v5.set (v4).toNat (AaF .or .u32 (AaF .or .u32 (AaF .or .u32 (IntKind.wrap .u32 ((IntKind.wrap .u32 v6)*2 ^ (24))) (IntKind.wrap .u32 ((IntKind.wrap .u32 v7)*2 ^ (16)))) (IntKind.wrap .u32 ((IntKind.wrap .u32 v8)*2 ^ (8)))) (IntKind.wrap .u32 v9)))) hF (by simp [F1]) (by simp [F1])
 ·replace hF:=AaO h1 hF;have h1_:=h1;try simp at h1_
  refine CF (by simp [h1,h1_] <;> omega) ?_;refine AW.exit ?_;try simp
  refine hK336 _ _ _ ?_;refine SW (A2 h1 h1_) [] [none] [1,19] [(8,AV.fn 111 [])] [] [] 3 ?_;refine AW.seq fun K410 hK410=>?_;refine SW (A2 h1 h1_) [] [none] [] [(9,Iz 16)] [] [] 3 ?_;refine AW.block ?_;refine AW.loopF (α:=(Int×(List Int))) (fun n (v10,v11)=>AaG.L2 k v0 v2 n v10 v11=some v3) (fun (v10,v11)=>[(0,AV.ptr 0 0),(2,AV.ptr 1 0),(6,AV.ptr 2 0),(8,AV.fn 111 []),(9,Iz v10)]) (fun (v10,v11)=>[(0,.cells (List.map (AV.int .u32) v0)),(1,.cells (List.map (AV.int .u32) v2)),(2,.cells (List.map (AV.int .u32) v11))]) 3 k ((16,v5)) hF (by simp [h1,h1_]) (by simp [h1,h1_]) (by simp) ?_;rintro (_|n2) ⟨v10,v11⟩ hF K439 hK439
  ·try dsimp only at hF
   rw [AaG.L2] at hF; cases hF
  try dsimp only at hF
  rw [AaG.L2] at hF;refine AW.seq fun K441 hK441=>?_;refine SW (A2 h1 h1_) [] [none,none] [] [(59,AV.bool (decide (v10<64)))] [] [] 3 ?_;by_cases h17 : v10<64
  ·replace hF:=AaN h17 hF;have h17_:=h17;try simp at h17_
   have F2:=A4 h1 h1_ h17 h17_;refine CT (by simp [F2] <;> omega) ?_;refine AW.skip ?_;refine hK441 _ _ _ ?_;refine AW.seq fun K445 hK445=>?_;refine AW.block ?_;refine SR [] [none,none,none,none,none,none,none,none,none,none] fun _ _ g r=>?_;obtain ⟨⟨h18,h20,h19⟩,hF⟩:=AaJ hF;have h19_:=Aal h19;obtain ⟨v12,h21,h22,h23,hF⟩:=AaM hF;have h23_:=Aaf h23;try simp at h23_
   have h22_:=h22;try simp at h22_
   obtain ⟨⟨h24,h26,h25⟩,hF⟩:=AaJ hF;have h25_:=Aal h25;obtain ⟨v13,h27,h28,h29,hF⟩:=AaM hF;have h29_:=Aaf h29;try simp at h29_
   have h28_:=h28;try simp at h28_
   have F3:=A9 F2 h18 h19 h20 h19_ h21 h22 h23 (A9 h23_ h22_ h24 h25 h26 h25_ h27 h28 (A3 h29 h29_ h28_));refine TL F3 g r [] [(10,AV.int .u32 v12),(11,AV.int .u32 v13)] [] [] 3 ?_;refine RG [] [none,none,none,none,none,none,none,none,none,none,none,none,none,none,none,none,none,none,none,none,none,none,none,none,none,none,none,none,none,none,none,none,none,none] fun _ _ g r=>?_;obtain ⟨⟨h30,h32,h31⟩,hF⟩:=AaJ hF;have h31_:=Aal h31;obtain ⟨v14,h33,h34,h35,hF⟩:=AaM hF;have h35_:=Aaf h35;try simp at h35_
   have h34_:=h34;try simp at h34_
   have F4:=A9 F3 h30 h31 h32 h31_ h33 h34 h35 (A2 h35_ h34_);try simp [F4]
   and_intros
   try any_goals first | omega | (simp [maxLen,F4] <;> omega)
   obtain ⟨v15,h36,hF⟩:=AaH hF;refine AC (Aam k _ _ _ h36) (.cons (.same (by simp [F4])) (.cons (.same (by simp [F4])) .nil)) ?_;try simp [F4]
   and_intros
   try any_goals first | omega | (simp [maxLen,F4] <;> omega)
   obtain ⟨v16,h37,hF⟩:=AaH hF;refine AC (Aam k _ _ _ h37) (.cons (.same (by simp [F4])) (.cons (.same (by simp [F4])) .nil)) ?_;obtain ⟨⟨h38,h40,h39⟩,hF⟩:=AaJ hF;have h39_:=Aal h39;obtain ⟨v17,h41,h42,h43,hF⟩:=AaM hF;have h43_:=Aaf h43;try simp at h43_
   have h42_:=h42;try simp at h42_
   have F5:=A9 F4 h38 h39 h40 h39_ h41 h42 h43 (A2 h43_ h42_);try simp [F5]
   and_intros
   try any_goals first | omega | (simp [maxLen,F5] <;> omega)
   obtain ⟨v18,h44,hF⟩:=AaH hF;refine AC (Aam k _ _ _ h44) (.cons (.same (by simp [F5])) (.cons (.same (by simp [F5])) .nil)) ?_;try simp [F5]
   and_intros
   try any_goals first | omega | (simp [maxLen,F5] <;> omega)
   obtain ⟨v19,h45,hF⟩:=AaH hF;refine AC (Aam k _ _ _ h45) (.cons (.same (by simp [F5])) (.cons (.same (by simp [F5])) .nil)) ?_;obtain ⟨⟨h46,h48,h47⟩,hF⟩:=AaJ hF;have h47_:=Aal h47;have F6:=A5 F5 h46 h47 h48 h47_;try simp [F6]
   and_intros <;> first | exact GK g | apply r | omega | (simp [maxLen,F6] <;> omega)
   refine hK445 _ _ _ ?_;refine WK [(0,AV.ptr 0 0),(2,AV.ptr 1 0),(6,AV.ptr 2 0),(8,AV.fn 111 []),(9,Iz v10)] [(0,.cells (List.map (AV.int .u32) v0)),(1,.cells (List.map (AV.int .u32) v2)),(2,.cells (List.map (AV.int .u32) (v11.set (v10).toNat (IntKind.wrap .u32 (IntKind.wrap .u32 (IntKind.wrap .u32 (v14+AaF .xor .u32 (AaF .xor .u32 v15 v16) (Int.fdiv v12 (2 ^ (3))))+v17)+AaF .xor .u32 (AaF .xor .u32 v18 v19) (Int.fdiv v13 (2 ^ (10))))))))] 3 (by simp [F6]) (by simp [F6]) ?_;refine RG [] [none,none,none] fun _ _ g r=>?_;try simp [F6]
   and_intros <;> first | exact GK g | apply r | omega | (simp [maxLen,F6] <;> omega)
   refine hK439 _ _ _ ?_;exact NX (k':=n2) ((IntKind.wrap .i64 (v10+1),v11.set (v10).toNat (IntKind.wrap .u32 (IntKind.wrap .u32 (IntKind.wrap .u32 (v14+AaF .xor .u32 (AaF .xor .u32 v15 v16) (Int.fdiv v12 (2 ^ (3))))+v17)+AaF .xor .u32 (AaF .xor .u32 v18 v19) (Int.fdiv v13 (2 ^ (10))))))) hF (by simp [F6]) (by simp [F6])
  ·replace hF:=AaO h17 hF;have h17_:=h17;try simp at h17_
   have F7:=A4 h1 h1_ h17 h17_;refine CF (by simp [F7] <;> omega) ?_;refine AW.exit ?_;try simp
   refine hK410 _ _ _ ?_;refine SR [] [none,none,none,none,none] fun _ _ g r=>?_;obtain ⟨h49,hF⟩:=AaJ hF;have h49_:=AdR h49 (by decide);obtain ⟨h50,hF⟩:=AaJ hF;have F8:=A4 F7 h49 h49_ h50;refine TL F8 g r [9] [(12,AV.ptr 3 0)] [] [(3,.cells (List.map (AV.int .u32) v0))] 4 ?_;refine AW.seq fun K508 hK508=>?_;refine SW F8 [] [none] [] [(106,Iz 0)] [] [] 4 ?_;refine AW.block ?_;refine AW.loopF (α:=(Int×(List Int))) (fun n (v20,v21)=>AaG.L3 k v0 v2 v11 n v20 v21=some v3) (fun (v20,v21)=>[(0,AV.ptr 0 0),(2,AV.ptr 1 0),(6,AV.ptr 2 0),(8,AV.fn 111 []),(12,AV.ptr 3 0),(106,Iz v20)]) (fun (v20,v21)=>[(0,.cells (List.map (AV.int .u32) v0)),(1,.cells (List.map (AV.int .u32) v2)),(2,.cells (List.map (AV.int .u32) v11)),(3,.cells (List.map (AV.int .u32) v21))]) 4 k ((0,v0)) hF (by simp [F8]) (by simp [F8]) (by simp) ?_;rintro (_|n3) ⟨v20,v21⟩ hF K552 hK552
   ·try dsimp only at hF
    rw [AaG.L3] at hF; cases hF
   try dsimp only at hF
   rw [AaG.L3] at hF;refine SW F8 [] [none] [] [(107,AV.bool (decide (v20<64)))] [] [] 4 ?_;refine AW.seq fun K554 hK554=>?_;by_cases h51 : v20<64
   ·replace hF:=AaN h51 hF;have h51_:=h51;try simp at h51_
    have F9:=A3 F8 h51 h51_;refine CT (by simp [F9] <;> omega) ?_;refine AW.skip ?_;refine hK554 _ _ _ ?_;refine AW.seq fun K560 hK560=>?_;refine AW.block ?_;refine SW F9 [] [none,none] [] [(13,Iz v20)] [] [] 4 ?_;refine SR [] [none,none,none,none,none,none] fun _ _ g r=>?_;obtain ⟨⟨h52,h54,h53⟩,hF⟩:=AaJ hF;have h53_:=Aal h53;obtain ⟨v22,h55,h56,h57,hF⟩:=AaM hF;have h57_:=Aaf h57;try simp at h57_
    have h56_:=h56;try simp at h56_
    have h57z:=Afv h57;obtain ⟨⟨h58,h60,h59⟩,hF⟩:=AaJ hF;have h59_:=Aal h59;obtain ⟨v23,h61,h62,h63,hF⟩:=AaM hF;have h63_:=Aaf h63;try simp at h63_
    have h62_:=h62;try simp at h62_
    have F10:=A9 F9 h52 h53 h54 h53_ h55 h56 h57 (A9 h57_ h56_ h57z h58 h59 h60 h59_ h61 (A4 h62 h63 h63_ h62_));refine TL F10 g r [] [(14,AV.int .u32 v22),(15,AV.int .u32 v23)] [] [] 4 ?_;refine SR [] [none,none,none,none,none,none,none,none,none,none,none,none,none,none,none,none,none,none,none,none,none,none,none,none,none,none,none,none,none,none,none,none,none,none,none,none] fun _ _ g r=>?_;obtain ⟨⟨h64,h66,h65⟩,hF⟩:=AaJ hF;have h65_:=Aal h65;obtain ⟨v24,h67,h68,h69,hF⟩:=AaM hF;have h69_:=Aaf h69;try simp at h69_
    have h68_:=h68;try simp at h68_
    have F11:=A9 F10 h64 h65 h66 h65_ h67 h68 h69 (A2 h69_ h68_);try simp [F11]
    and_intros
    try any_goals first | omega | (simp [maxLen,F11] <;> omega)
    obtain ⟨v25,h70,hF⟩:=AaH hF;refine AC (Aam k _ _ _ h70) (.cons (.same (by simp [F11])) (.cons (.same (by simp [F11])) .nil)) ?_;try simp [F11]
    and_intros
    try any_goals first | omega | (simp [maxLen,F11] <;> omega)
    obtain ⟨v26,h71,hF⟩:=AaH hF;refine AC (Aam k _ _ _ h71) (.cons (.same (by simp [F11])) (.cons (.same (by simp [F11])) .nil)) ?_;try simp [F11]
    and_intros
    try any_goals first | omega | (simp [maxLen,F11] <;> omega)
    obtain ⟨v27,h72,hF⟩:=AaH hF;refine AC (Aam k _ _ _ h72) (.cons (.same (by simp [F11])) (.cons (.same (by simp [F11])) .nil)) ?_;obtain ⟨⟨h73,h75,h74⟩,hF⟩:=AaJ hF;have h74_:=Aal h74;obtain ⟨v28,h76,h77,h78,hF⟩:=AaM hF;have h78_:=Aaf h78;try simp at h78_
    have h77_:=h77;try simp at h77_
    obtain ⟨⟨h79,h81,h80⟩,hF⟩:=AaJ hF;have h80_:=Aal h80;obtain ⟨v29,h82,h83,h84,hF⟩:=AaM hF;have h84_:=Aaf h84;try simp at h84_
    have h83_:=h83;try simp at h83_
    obtain ⟨⟨h85,h87,h86⟩,hF⟩:=AaJ hF;have h86_:=Aal h86;obtain ⟨v30,h88,h89,h90,hF⟩:=AaM hF;have h90_:=Aaf h90;try simp at h90_
    have h89_:=h89;try simp at h89_
    obtain ⟨⟨h91,h93,h92⟩,hF⟩:=AaJ hF;have h92_:=Aal h92;obtain ⟨v31,h94,h95,h96,hF⟩:=AaM hF;have h96_:=Aaf h96;try simp at h96_
    have h95_:=h95;try simp at h95_
    have F12:=A9 F11 h73 h74 h75 h74_ h76 h77 h78 (A9 h78_ h77_ h79 h80 h81 h80_ h82 h83 (A9 h84 h84_ h83_ h85 h86 h87 h86_ h88 (A9 h89 h90 h90_ h89_ h91 h92 h93 h92_ (A5 h94 h95 h96 h96_ h95_))));refine TL F12 g r [13,15] [(16,AV.int .u32 (IntKind.wrap .u32 (IntKind.wrap .u32 (IntKind.wrap .u32 (IntKind.wrap .u32 (v24+AaF .xor .u32 (AaF .xor .u32 v25 v26) v27)+AaF .xor .u32 (AaF .and .u32 v23 v28) (AaF .and .u32 (AaF .xor .u32 (IntKind.max .u32) v23) v29))+v30)+v31)))] [] [] 4 ?_;refine SR [] [none,none,none,none,none,none,none,none,none,none,none,none,none,none,none,none,none,none,none,none,none,none,none,none,none,none,none,none] fun _ _ g r=>?_;try simp [F12]
    and_intros
    try any_goals first | omega | (simp [maxLen,F12] <;> omega)
    obtain ⟨v32,h97,hF⟩:=AaH hF;refine AC (Aam k _ _ _ h97) (.cons (.same (by simp [F12])) (.cons (.same (by simp [F12])) .nil)) ?_;try simp [F12]
    and_intros
    try any_goals first | omega | (simp [maxLen,F12] <;> omega)
    obtain ⟨v33,h98,hF⟩:=AaH hF;refine AC (Aam k _ _ _ h98) (.cons (.same (by simp [F12])) (.cons (.same (by simp [F12])) .nil)) ?_;try simp [F12]
    and_intros
    try any_goals first | omega | (simp [maxLen,F12] <;> omega)
    obtain ⟨v34,h99,hF⟩:=AaH hF;refine AC (Aam k _ _ _ h99) (.cons (.same (by simp [F12])) (.cons (.same (by simp [F12])) .nil)) ?_;obtain ⟨⟨h100,h102,h101⟩,hF⟩:=AaJ hF;have h101_:=Aal h101;obtain ⟨v35,h103,h104,h105,hF⟩:=AaM hF;have h105_:=Aaf h105;try simp at h105_
    have h104_:=h104;try simp at h104_
    obtain ⟨⟨h106,h108,h107⟩,hF⟩:=AaJ hF;have h107_:=Aal h107;obtain ⟨v36,h109,h110,h111,hF⟩:=AaM hF;have h111_:=Aaf h111;try simp at h111_
    have h110_:=h110;try simp at h110_
    obtain ⟨⟨h112,h114,h113⟩,hF⟩:=AaJ hF;have h113_:=Aal h113;obtain ⟨⟨h115,h117,h116⟩,hF⟩:=AaJ hF;have h116_:=Aal h116;have F13:=A9 F12 h100 h101 h102 h101_ h103 h104 h105 (A9 h105_ h104_ h106 h107 h108 h107_ h109 h110 (A9 h111 h111_ h110_ h112 h113 h114 h113_ h115 (A3 h116 h117 h116_)));refine TL F13 g r [14] [(17,AV.int .u32 (IntKind.wrap .u32 (AaF .xor .u32 (AaF .xor .u32 v32 v33) v34+AaF .xor .u32 (AaF .xor .u32 (AaF .and .u32 v22 v35) (AaF .and .u32 v22 v36)) (AaF .and .u32 v35 v36))))] [] [] 4 ?_;refine RG [] [none,none,none,none,none,none,none,none,none,none,none,none,none,none,none,none,none,none,none,none,none] fun _ _ g r=>?_;obtain ⟨⟨h118,h120,h119⟩,hF⟩:=AaJ hF;have h119_:=Aal h119;obtain ⟨⟨h121,h123,h122⟩,hF⟩:=AaJ hF;have h122_:=Aal h122;obtain ⟨⟨h124,h126,h125⟩,hF⟩:=AaJ hF;have h125_:=Aal h125;obtain ⟨⟨h127,h129,h128⟩,hF⟩:=AaJ hF;have h128_:=Aal h128;obtain ⟨v37,h130,h131,h132,hF⟩:=AaM hF;have h132_:=Aaf h132;try simp at h132_
    have h131_:=h131;try simp at h131_
    obtain ⟨⟨h133,h135,h134⟩,hF⟩:=AaJ hF;have h134_:=Aal h134;obtain ⟨⟨h136,h138,h137⟩,hF⟩:=AaJ hF;have h137_:=Aal h137;obtain ⟨⟨h139,h141,h140⟩,hF⟩:=AaJ hF;have h140_:=Aal h140;obtain ⟨h142,hF⟩:=AaJ hF;have F14:=A9 F13 h118 h119 h120 h119_ h121 h122 h123 (A9 h122_ h124 h125 h126 h125_ h127 h128 h129 (A9 h128_ h130 h131 h132 h132_ h131_ h133 h134 (A9 h135 h134_ h136 h137 h138 h137_ h139 h140 (A3 h141 h140_ h142))));try simp [F14]
    and_intros <;> first | exact GK g | apply r | omega | (simp [maxLen,F14] <;> omega)
    refine hK560 _ _ _ ?_;refine WK [(0,AV.ptr 0 0),(2,AV.ptr 1 0),(6,AV.ptr 2 0),(8,AV.fn 111 []),(12,AV.ptr 3 0),(106,Iz v20)] [(0,.cells (List.map (AV.int .u32) v0)),(1,.cells (List.map (AV.int .u32) v2)),(2,.cells (List.map (AV.int .u32) v11)),(3,.cells (List.map (AV.int .u32) ([IntKind.wrap .u32 (IntKind.wrap .u32 (IntKind.wrap .u32 (IntKind.wrap .u32 (IntKind.wrap .u32 (v24+AaF .xor .u32 (AaF .xor .u32 v25 v26) v27)+AaF .xor .u32 (AaF .and .u32 v23 v28) (AaF .and .u32 (AaF .xor .u32 (IntKind.max .u32) v23) v29))+v30)+v31)+IntKind.wrap .u32 (AaF .xor .u32 (AaF .xor .u32 v32 v33) v34+AaF .xor .u32 (AaF .xor .u32 (AaF .and .u32 v22 v35) (AaF .and .u32 v22 v36)) (AaF .and .u32 v35 v36))),v22,v35,v36,IntKind.wrap .u32 (v37+IntKind.wrap .u32 (IntKind.wrap .u32 (IntKind.wrap .u32 (IntKind.wrap .u32 (v24+AaF .xor .u32 (AaF .xor .u32 v25 v26) v27)+AaF .xor .u32 (AaF .and .u32 v23 v28) (AaF .and .u32 (AaF .xor .u32 (IntKind.max .u32) v23) v29))+v30)+v31)),v23,v28,v29] : List Int)))] 4 (by simp [F14]) (by simp [F14]) ?_;refine RG [] [none,none] fun _ _ g r=>?_;try simp [F14]
    and_intros <;> first | exact GK g | apply r | omega | (simp [maxLen,F14] <;> omega)
    refine hK552 _ _ _ ?_;exact NX (k':=n3) ((IntKind.wrap .i64 (v20+1),([IntKind.wrap .u32 (IntKind.wrap .u32 (IntKind.wrap .u32 (IntKind.wrap .u32 (IntKind.wrap .u32 (v24+AaF .xor .u32 (AaF .xor .u32 v25 v26) v27)+AaF .xor .u32 (AaF .and .u32 v23 v28) (AaF .and .u32 (AaF .xor .u32 (IntKind.max .u32) v23) v29))+v30)+v31)+IntKind.wrap .u32 (AaF .xor .u32 (AaF .xor .u32 v32 v33) v34+AaF .xor .u32 (AaF .xor .u32 (AaF .and .u32 v22 v35) (AaF .and .u32 v22 v36)) (AaF .and .u32 v35 v36))),v22,v35,v36,IntKind.wrap .u32 (v37+IntKind.wrap .u32 (IntKind.wrap .u32 (IntKind.wrap .u32 (IntKind.wrap .u32 (v24+AaF .xor .u32 (AaF .xor .u32 v25 v26) v27)+AaF .xor .u32 (AaF .and .u32 v23 v28) (AaF .and .u32 (AaF .xor .u32 (IntKind.max .u32) v23) v29))+v30)+v31)),v23,v28,v29] : List Int))) hF (by simp [F14]) (by simp [F14])
   ·replace hF:=AaO h51 hF;have h51_:=h51;try simp at h51_
    have F15:=A3 F8 h51 h51_;refine CF (by simp [F15] <;> omega) ?_;refine AW.exit ?_;try simp
    refine hK508 _ _ _ ?_;refine SW F15 [] [none] [2,6,8,106] [(196,Iz 0)] [2] [] 4 ?_;refine AW.block ?_;refine AW.rnm (m:=2) h0 [(0,0),(1,1),(2,3)] [(0,AV.ptr 0 0),(12,AV.ptr 2 0),(196,Iz 0)] [(0,.cells (List.map (AV.int .u32) v0)),(1,.cells (List.map (AV.int .u32) v2)),(2,.cells (List.map (AV.int .u32) v21))] 3 (by decide) (by decide) (by decide) rfl (by simp [F15]) (by simp [F15]) ?_;refine AW.loopF (α:=(Int×(List Int))) (fun n (v38,v39)=>AaG.L4 k v21 n v38 v39=some v3) (fun (v38,v39)=>[(0,AV.ptr 0 0),(12,AV.ptr 2 0),(196,Iz v38)]) (fun (v38,v39)=>[(0,.cells (List.map (AV.int .u32) v39)),(1,.cells (List.map (AV.int .u32) v2)),(2,.cells (List.map (AV.int .u32) v21))]) 3 k ((0,v0)) hF (by simp [F15]) (by simp [F15]) (by simp) ?_;rintro (_|n4) ⟨v38,v39⟩ hF K592 hK592
    ·try dsimp only at hF
     rw [AaG.L4] at hF; cases hF
    try dsimp only at hF
    rw [AaG.L4] at hF;refine SW F15 [] [none] [] [(197,AV.bool (decide (v38<8)))] [] [] 3 ?_;refine AW.seq fun K594 hK594=>?_;by_cases h143 : v38<8
    ·replace hF:=AaN h143 hF;have h143_:=h143;try simp at h143_
     have F16:=A3 F15 h143 h143_;refine CT (by simp [F16] <;> omega) ?_;refine AW.skip ?_;refine hK594 _ _ _ ?_;refine AW.seq fun K597 hK597=>?_;refine AW.block ?_;refine SW F16 [] [none,none] [] [(18,Iz v38)] [] [] 3 ?_;refine RG [] [none,none,none,none,none,none,none,none,none,none,none,none] fun _ _ g r=>?_;obtain ⟨⟨h144,h146,h145⟩,hF⟩:=AaJ hF;have h145_:=Aal h145;obtain ⟨v40,h147,h148,h149,hF⟩:=AaM hF;have h149_:=Aaf h149;try simp at h149_
     have h148_:=h148;try simp at h148_
     obtain ⟨⟨h150,h152,h151⟩,hF⟩:=AaJ hF;have h151_:=Aal h151;obtain ⟨v41,h153,h154,h155,hF⟩:=AaM hF;have h155_:=Aaf h155;try simp at h155_
     have h154_:=h154;try simp at h154_
     obtain ⟨⟨h156,h158,h157⟩,hF⟩:=AaJ hF;have h157_:=Aal h157;have F17:=A9 F16 h144 h145 h146 h145_ h147 h148 h149 (A9 h149_ h148_ h150 h151 h152 h151_ h153 h154 (A7 h155 h155_ h154_ h156 h157 h158 h157_));try simp [F17]
     and_intros <;> first | exact GK g | apply r | omega | (simp [maxLen,F17] <;> omega)
     refine hK597 _ _ _ ?_;refine WK [(0,AV.ptr 0 0),(12,AV.ptr 2 0),(196,Iz v38)] [(0,.cells (List.map (AV.int .u32) (v39.set (v38).toNat (IntKind.wrap .u32 (v40+v41))))),(1,.cells (List.map (AV.int .u32) v2)),(2,.cells (List.map (AV.int .u32) v21))] 3 (by simp [F17]) (by simp [F17]) ?_;refine RG [] [none,none] fun _ _ g r=>?_;try simp [F17]
     and_intros <;> first | exact GK g | apply r | omega | (simp [maxLen,F17] <;> omega)
     refine hK592 _ _ _ ?_;exact NX (k':=n4) ((IntKind.wrap .i64 (v38+1),v39.set (v38).toNat (IntKind.wrap .u32 (v40+v41)))) hF (by simp [F17]) (by simp [F17])
    ·replace hF:=AaO h143 hF;have h143_:=h143;try simp at h143_
     have F18:=A3 F15 h143 h143_;refine CF (by simp [F18] <;> omega) ?_;refine AW.exit ?_;try simp
     simp only [Option.some.injEq] at hF;subst hF;refine (hQ _ _ _ ?_ (AaE ?_)).2
     ·simp [Try.f77,F18]
     ·simp [F18]
theorem Adk (k : Nat) (v0 : (List Int)) (v1 : ByteArray) (hF : AaW k v0=some v1) :
 AbA Try.prog 44 [AV.lst false false (List.map (AV.int .u8) v0)] [] (AV.str v1) []:=by
 unfold AaW at hF;refine EN Try.func44 ?_;intro c0 w0 Q h0 hQ
 refine WK [(0,Lb v0)] [] 0 (by simp) (by simp) ?_;refine SW trivial [] [none] [] [] [] [] 0 ?_;refine SQ [12] [none,none,none,none,none] fun _ _ g r=>?_;obtain ⟨h1,hF⟩:=AaJ hF;have h1_:=h1;try simp at h1_
 obtain ⟨h2,hF⟩:=AaJ hF;have h2_:=h2;try simp at h2_
 try simp [h1,h2]
 and_intros <;> first | exact GK g | apply r | omega | (simp [h1,h2,maxLen] <;> omega)
 refine WK [(0,Lb v0),(3,AV.slc 1 0 1 ((v0++([128] : List Int)).length) false)] [(1,.grow (List.map (AV.int .u8) (v0++([128] : List Int))))] 2 (by simp [h1,h2] <;> omega) (by simp [h1,h2]) ?_;refine AW.seq fun K250 hK250=>?_;refine AW.block ?_;refine RM h0 [(0,1)] [(0,Lb v0),(3,AV.slc 0 0 1 ((v0++([128] : List Int)).length) false)] [(0,.grow (List.map (AV.int .u8) (v0++([128] : List Int))))] 1 (by simp [h1,h2]) (by simp [h1,h2]) ?_;refine AW.loopF (α:=(List Int)) (fun n v2=>AaW.L1 k v0 n v2=some v1) (fun v2=>[(0,Lb v0),(3,AV.slc 0 0 1 v2.length false)]) (fun v2=>[(0,.grow (List.map (AV.int .u8) v2))]) 1 k (v0++([128] : List Int)) hF (by simp [h1,h2]) (by simp [h1,h2]) (by simp) ?_;rintro (_|n1) v2 hF K263 hK263
 ·try dsimp only at hF
  rw [AaW.L1] at hF; cases hF
 try dsimp only at hF
 rw [AaW.L1] at hF;refine AW.seq fun K265 hK265=>?_;refine SW (A2 h1 h2) [] [none,none,none,none] [] [(18,AV.bool ((Int.tmod (v2.length : Int) 64) !=56))] [] [] 1 ?_;by_cases h3 : (Int.tmod (v2.length : Int) 64)≠56
 ·replace hF:=AaN h3 hF;have h3_:=AbR h3;have h3__:=AbW h3;refine CT (by simp [h1,h2,h3,h3_,h3__] <;> omega) ?_;refine AW.skip ?_;refine hK265 _ _ _ ?_;refine AW.block ?_;refine RG [] [none,none,none,none] fun _ _ g r=>?_;obtain ⟨h4,hF⟩:=AaJ hF;have h4_:=h4;try simp at h4_
  have F1:=A6 h1 h2 h3 h3_ h3__ h4;try simp [F1]
  and_intros <;> first | exact GK g | apply r | omega | (simp [maxLen,F1] <;> omega)
  refine hK263 _ _ _ ?_;refine RN h0 [(0,1)] [(0,Lb v0),(3,AV.slc 0 0 1 ((v2++([0] : List Int)).length) false)] [(0,.grow (List.map (AV.int .u8) (v2++([0] : List Int))))] 1 (by simp [F1] <;> omega) (by simp [F1]) ?_;exact NX (k':=n1) (v2++([0] : List Int)) hF (by simp [F1]) (by simp [F1])
 ·replace hF:=AaO h3 hF;have h3q : (Int.tmod (v2.length : Int) 64)=56:=Classical.not_not.1 h3;have h3_:=AbY h3q;have h3__:=AbX h3q;have F2:=A5 h1 h2 h3_ h3__ h3q;refine CF (by simp [F2] <;> omega) ?_;refine AW.exit ?_;try simp
  refine hK250 _ _ _ ?_;refine SW F2 [] [none,none,none,none,none] [0] [(4,AV.int .u64 (IntKind.wrap .u64 (IntKind.wrap .u64 (v0.length : Int)*8)))] [] [] 1 ?_;refine AW.seq fun K299 hK299=>?_;refine SW F2 [] [none] [] [(5,Iz 56)] [] [] 1 ?_;refine AW.block ?_;refine AW.loopF (α:=(Int×(List Int))) (fun n (v3,v4)=>AaW.L2 k v0 n v3 v4=some v1) (fun (v3,v4)=>[(3,AV.slc 0 0 1 v4.length false),(4,AV.int .u64 (IntKind.wrap .u64 (IntKind.wrap .u64 (v0.length : Int)*8))),(5,Iz v3)]) (fun (v3,v4)=>[(0,.grow (List.map (AV.int .u8) v4))]) 1 k ((56,v2)) hF (by simp [F2]) (by simp [F2]) (by simp) ?_;rintro (_|n2) ⟨v3,v4⟩ hF K322 hK322
  ·try dsimp only at hF
   rw [AaW.L2] at hF; cases hF
  try dsimp only at hF
  rw [AaW.L2] at hF;refine AW.seq fun K324 hK324=>?_;refine SW F2 [] [none,none] [] [(27,AV.bool (decide (0≤v3)))] [] [] 1 ?_;by_cases h5 : 0≤v3
  ·replace hF:=AaN h5 hF;have h5_:=h5;try simp at h5_
   have F3:=A3 F2 h5 h5_;refine CT (by simp [F3] <;> omega) ?_;refine AW.skip ?_;refine hK324 _ _ _ ?_;refine AW.seq fun K327 hK327=>?_;refine AW.block ?_;refine RG [] [none,none,none,none,none,none,none,none,none] fun _ _ g r=>?_;obtain ⟨h6,hF⟩:=AaJ hF;obtain ⟨h7,hF⟩:=AaJ hF;have h7_:=h7;try simp at h7_
   have F4:=A3 F3 h6 h7;try simp [F4]
   and_intros <;> first | exact GK g | apply r | omega | (simp [maxLen,F4] <;> omega)
   refine hK327 _ _ _ ?_;refine WK [(3,AV.slc 1 0 1 ((v4++([IntKind.wrap .u8 (Int.fdiv (IntKind.wrap .u64 (IntKind.wrap .u64 (v0.length : Int)*8)) (2 ^ (min ((IntKind.wrap .u64 v3).toNat) 64)))] : List Int)).length) false),(4,AV.int .u64 (IntKind.wrap .u64 (IntKind.wrap .u64 (v0.length : Int)*8))),(5,Iz v3)] [(1,.grow (List.map (AV.int .u8) (v4++([IntKind.wrap .u8 (Int.fdiv (IntKind.wrap .u64 (IntKind.wrap .u64 (v0.length : Int)*8)) (2 ^ (min ((IntKind.wrap .u64 v3).toNat) 64)))] : List Int))))] 2 (by simp [F4] <;> omega) (by simp [F4]) ?_;refine RG [] [none,none,none] fun _ _ g r=>?_;try simp [F4]
   and_intros <;> first | exact GK g | apply r | omega | (simp [maxLen,F4] <;> omega)
   refine hK322 _ _ _ ?_;refine RN h0 [(0,1)] [(3,AV.slc 0 0 1 ((v4++([IntKind.wrap .u8 (Int.fdiv (IntKind.wrap .u64 (IntKind.wrap .u64 (v0.length : Int)*8)) (2 ^ (min ((IntKind.wrap .u64 v3).toNat) 64)))] : List Int)).length) false),(4,AV.int .u64 (IntKind.wrap .u64 (IntKind.wrap .u64 (v0.length : Int)*8))),(5,Iz (IntKind.wrap .i64 (v3-8)))] [(0,.grow (List.map (AV.int .u8) (v4++([IntKind.wrap .u8 (Int.fdiv (IntKind.wrap .u64 (IntKind.wrap .u64 (v0.length : Int)*8)) (2 ^ (min ((IntKind.wrap .u64 v3).toNat) 64)))] : List Int))))] 1 (by simp [F4] <;> omega) (by simp [F4]) ?_;exact NX (k':=n2) ((IntKind.wrap .i64 (v3-8),v4++([IntKind.wrap .u8 (Int.fdiv (IntKind.wrap .u64 (IntKind.wrap .u64 (v0.length : Int)*8)) (2 ^ (min ((IntKind.wrap .u64 v3).toNat) 64)))] : List Int))) hF (by simp [F4]) (by simp [F4])
  ·replace hF:=AaO h5 hF;have h5_:=h5;try simp at h5_
   have F5:=A3 F2 h5 h5_;refine CF (by simp [F5] <;> omega) ?_;refine AW.exit ?_;try simp
   refine hK299 _ _ _ ?_;refine WK [(3,AV.slc 0 0 1 v4.length false)] [(0,.grow (List.map (AV.int .u8) v4))] 1 (by simp [F5]) (by simp [F5]) ?_;refine AW.frz 0 (o := .grow (List.map (AV.int .u8) v4)) (by simp [F5]) rfl [(3,Lb v4)] [] ⟨(.l (by simp) (by simp) (by simp) (by simp)),trivial⟩ trivial ?_;refine WK [(3,Lb v4)] [] 1 (by simp [F5]) (by simp [F5]) ?_;refine SR [] [none,none,none,none,none,none] fun _ _ g r=>?_;try simp [F5]
   and_intros
   try any_goals first | omega | (simp [maxLen,F5] <;> omega)
   obtain ⟨v5,h8,hF⟩:=AaH hF;refine AC (Afe k _ h8) .nil ?_;obtain ⟨h9,hF⟩:=AaJ hF;obtain ⟨h10,hF⟩:=AaJ hF;have F6:=A3 F5 h9 h10;refine TL F6 g r [] [(6,AV.ptr 1 0),(7,AV.ptr 2 0)] [] [(1,.cells (List.map (AV.int .u32) ([1779033703,3144134277,1013904242,2773480762,1359893119,2600822924,528734635,1541459225] : List Int))),(2,.cells (List.map (AV.int .u32) v5))] 3 ?_;refine AW.seq fun K360 hK360=>?_;refine AW.block ?_;refine RM h0 [(0,1),(1,2)] [(3,Lb v4),(6,AV.ptr 0 0),(7,AV.ptr 1 0)] [(0,.cells (List.map (AV.int .u32) ([1779033703,3144134277,1013904242,2773480762,1359893119,2600822924,528734635,1541459225] : List Int))),(1,.cells (List.map (AV.int .u32) v5))] 2 (by simp [F6]) (by simp [F6]) ?_;refine AW.loopF (α:=((List Int)×(List Int))) (fun n (v6,v7)=>AaW.L3 k v5 n v6 v7=some v1) (fun (v6,v7)=>[(3,Lb v6),(6,AV.ptr 0 0),(7,AV.ptr 1 0)]) (fun (v6,v7)=>[(0,.cells (List.map (AV.int .u32) v7)),(1,.cells (List.map (AV.int .u32) v5))]) 2 k ((v4,([1779033703,3144134277,1013904242,2773480762,1359893119,2600822924,528734635,1541459225] : List Int))) hF (by simp [F6]) (by simp [F6]) (by simp) ?_;rintro (_|n3) ⟨v6,v7⟩ hF K382 hK382
   ·try dsimp only at hF
    rw [AaW.L3] at hF; cases hF
   try dsimp only at hF
   rw [AaW.L3] at hF;refine AW.seq fun K384 hK384=>?_;refine SW F6 [] [none,none,none] [] [(42,AV.bool (decide (0<(v6.length : Int))))] [] [] 2 ?_;by_cases h11 : 0<(v6.length : Int)
   ·replace hF:=AaN h11 hF;have h11_:=h11;try simp at h11_
    have F7:=A3 F6 h11 h11_;refine CT (by simp [F7] <;> omega) ?_;refine AW.skip ?_;refine hK384 _ _ _ ?_;refine AW.seq fun K387 hK387=>?_;refine AW.block ?_;refine RG [] [none,none,none] fun _ _ g r=>?_;obtain ⟨h12,hF⟩:=AaJ hF;have h12_:=h12;try simp at h12_
    have F8:=A3 F7 h12 h12_;try simp [F8]
    and_intros
    try any_goals first | omega | (simp [maxLen,F8] <;> omega)
    obtain ⟨v8,h13,hF⟩:=AaH hF;refine Aa6 (AeE k _ _ _ _ h13) (by simp) [0,1] [] [0] rfl (.cons (.same (by simp [F8])) (.cons (.same (by simp [F8])) (.cons (.same (by simp [F8])) .nil))) (by simp [F8]) (by decide) (by simp) (by simp) (.inl rfl) (by simp) (by simp) ?_;try simp [F8]
    and_intros <;> first | exact GK g | apply r | omega | (simp [maxLen,F8] <;> omega)
    refine hK387 _ _ _ ?_;refine WK [(3,Lb v6),(6,AV.ptr 0 0),(7,AV.ptr 1 0)] [(0,.cells (List.map (AV.int .u32) v8)),(1,.cells (List.map (AV.int .u32) v5))] 2 (by simp [F8]) (by simp [F8]) ?_;refine RG [] [none,none,none] fun _ _ g r=>?_;obtain ⟨h14,hF⟩:=AaJ hF;have h14_:=h14;try simp at h14_
    have F9:=A3 F8 h14 h14_;try simp [F9]
    and_intros <;> first | exact GK g | apply r | omega | (simp [maxLen,F9] <;> omega)
    refine hK382 _ _ _ ?_;exact NX (k':=n3) ((v6.drop (64 : Int).toNat,v8)) hF (by simp [F9]) (by simp [F9])
   ·replace hF:=AaO h11 hF;have h11_:=h11;try simp at h11_
    have F10:=A3 F6 h11 h11_;refine CF (by simp [F10] <;> omega) ?_;refine AW.exit ?_;try simp
    refine hK360 _ _ _ ?_;refine SW F10 [] [none] [3,7] [(8,AV.lst true true (List.map (AV.int .u8) ([] : List Int)))] [1] [] 2 ?_;refine AW.seq fun K425 hK425=>?_;refine SR [] [none,none] fun _ _ g r=>?_;obtain ⟨h15,hF⟩:=AaJ hF;have h15_:=AdR h15 (by decide);have F11:=A3 F10 h15 h15_;refine TL F11 g r [6] [(48,AV.agg (List.map (AV.int .u32) v7)),(49,Iz 0)] [0] [] 2 ?_;refine AW.block ?_;refine AW.own' 8 1 true (by simp [F11]) (by decide) ?_;refine RM h0 [(0,2)] [(8,AV.slc 0 0 1 (([] : List Int).length) false),(48,AV.agg (List.map (AV.int .u32) v7)),(49,Iz 0)] [(0,.grow (List.map (AV.int .u8) ([] : List Int)))] 1 (by simp [F11]) (by simp [F11]) ?_;refine AW.loopF (α:=(Int×(List Int))) (fun n (v9,v10)=>AaW.L4 k v7 n v9 v10=some v1) (fun (v9,v10)=>[(8,AV.slc 0 0 1 v10.length false),(48,AV.agg (List.map (AV.int .u32) v7)),(49,Iz v9)]) (fun (v9,v10)=>[(0,.grow (List.map (AV.int .u8) v10))]) 1 k ((0,([] : List Int))) hF (by simp [F11]) (by simp [F11]) (by simp) ?_;rintro (_|n4) ⟨v9,v10⟩ hF K451 hK451
    ·try dsimp only at hF
     rw [AaW.L4] at hF; cases hF
    try dsimp only at hF
    rw [AaW.L4] at hF;refine SW F11 [] [none] [] [(50,AV.bool (decide (v9<8)))] [] [] 1 ?_;refine AW.seq fun K453 hK453=>?_;by_cases h16 : v9<8
    ·replace hF:=AaN h16 hF;have h16_:=h16;try simp at h16_
     have F12:=A3 F11 h16 h16_;refine CT (by simp [F12] <;> omega) ?_;refine AW.skip ?_;refine hK453 _ _ _ ?_;refine AW.seq fun K456 hK456=>?_;refine AW.block ?_;refine SR [] [none,none] fun _ _ g r=>?_;obtain ⟨h17,hF⟩:=AaJ hF;obtain ⟨v11,h18,h19,h20,hF⟩:=AaM hF;have h20_:=Aaf h20;try simp at h20_
     have h19_:=h19;try simp at h19_
     have F13:=A7 F12 h17 h18 h19 h20 h20_ h19_;refine TL F13 g r [] [(10,AV.int .u32 v11)] [] [] 1 ?_;refine RG [] [none,none,none,none,none,none,none,none,none,none,none,none,none,none,none] fun _ _ g r=>?_;obtain ⟨h21,hF⟩:=AaJ hF;have h21_:=h21;try simp at h21_
     have F14:=A2 F13 h21;try simp [F14]
     and_intros <;> first | exact GK g | apply r | omega | (simp [maxLen,F14] <;> omega)
     refine hK456 _ _ _ ?_;refine WK [(8,AV.slc 1 0 1 ((v10++([IntKind.wrap .u8 (Int.fdiv v11 (2 ^ (24))),IntKind.wrap .u8 (Int.fdiv v11 (2 ^ (16))),IntKind.wrap .u8 (Int.fdiv v11 (2 ^ (8))),IntKind.wrap .u8 v11] : List Int)).length) false),(48,AV.agg (List.map (AV.int .u32) v7)),(49,Iz v9)] [(1,.grow (List.map (AV.int .u8) (v10++([IntKind.wrap .u8 (Int.fdiv v11 (2 ^ (24))),IntKind.wrap .u8 (Int.fdiv v11 (2 ^ (16))),IntKind.wrap .u8 (Int.fdiv v11 (2 ^ (8))),IntKind.wrap .u8 v11] : List Int))))] 2 (by simp [F14] <;> omega) (by simp [F14]) ?_;refine RG [] [none,none] fun _ _ g r=>?_;try simp [F14]
     and_intros <;> first | exact GK g | apply r | omega | (simp [maxLen,F14] <;> omega)
     refine hK451 _ _ _ ?_;refine RN h0 [(0,1)] [(8,AV.slc 0 0 1 ((v10++([IntKind.wrap .u8 (Int.fdiv v11 (2 ^ (24))),IntKind.wrap .u8 (Int.fdiv v11 (2 ^ (16))),IntKind.wrap .u8 (Int.fdiv v11 (2 ^ (8))),IntKind.wrap .u8 v11] : List Int)).length) false),(48,AV.agg (List.map (AV.int .u32) v7)),(49,Iz (IntKind.wrap .i64 (v9+1)))] [(0,.grow (List.map (AV.int .u8) (v10++([IntKind.wrap .u8 (Int.fdiv v11 (2 ^ (24))),IntKind.wrap .u8 (Int.fdiv v11 (2 ^ (16))),IntKind.wrap .u8 (Int.fdiv v11 (2 ^ (8))),IntKind.wrap .u8 v11] : List Int))))] 1 (by simp [F14] <;> omega) (by simp [F14]) ?_;exact NX (k':=n4) ((IntKind.wrap .i64 (v9+1),v10++([IntKind.wrap .u8 (Int.fdiv v11 (2 ^ (24))),IntKind.wrap .u8 (Int.fdiv v11 (2 ^ (16))),IntKind.wrap .u8 (Int.fdiv v11 (2 ^ (8))),IntKind.wrap .u8 v11] : List Int))) hF (by simp [F14]) (by simp [F14])
    ·replace hF:=AaO h16 hF;have h16_:=h16;try simp at h16_
     have F15:=A3 F11 h16 h16_;refine CF (by simp [F15] <;> omega) ?_;refine AW.exit ?_;try simp
     refine hK425 _ _ _ ?_;refine WK [(8,AV.slc 0 0 1 v10.length false)] [(0,.grow (List.map (AV.int .u8) v10))] 1 (by simp [F15]) (by simp [F15]) ?_;refine AW.frz 0 (o := .grow (List.map (AV.int .u8) v10)) (by simp [F15]) rfl [(8,Lb v10)] [] ⟨(.l (by simp) (by simp) (by simp) (by simp)),trivial⟩ trivial ?_;refine WK [(8,Lb v10)] [] 1 (by simp [F15]) (by simp [F15]) ?_;refine SW F15 [] [none,none,none] [8] [(2,AV.str (ofI v10))] [] [] 1 ?_;simp only [Option.some.injEq] at hF;subst hF;refine AW.ret (hQ _ _ _ ?_ (AaE ?_)).1
     ·simp [Try.f44,F15]
     ·simp [F15]
end Go.TF
