import Derived.Test.YtomgdcnbceiggaaBazWal27
import Derived.Test.YtomgdcnbceiggaaBazWal31
import Derived.Test.YtomgdcnbceiggaaBazWal28
import Derived.Test.YtomgdcnbceiggaaBazWal29
set_option linter.unusedVariables false
set_option linter.unusedSimpArgs false
set_option maxRecDepth 100000
set_option maxHeartbeats 4000000
namespace Go.TF
open Go Go.Abs Go.Proofs Go.Proofs.YtomgdcnbceiggaaBaT
theorem Agh (k : Nat) (v0 : Int) (v1 : (List AbD)) (v2 : (List Int)) (v3 : (List Int)) (v4 : (List Int)) (v5 : Int) (v6 : Int) (hF : Acx k v0 v1 v2 v3 v4 v5=some v6) :
 AbA Try.prog 38 [AV.agg [AV.int .i64 v0,Q0 v1,AV.lst false false (List.map (AV.int .i64) v2)],AV.agg [AV.lst false false (List.map (AV.int .i64) v3),AV.lst false false (List.map (AV.int .i64) v4),AV.int .i64 v5]] [] (AV.int .i64 v6) []:=by
 unfold Acx at hF;refine EN Try.func38 ?_;intro c0 w0 Q h0 hQ
 refine WK [(0,AV.agg [Iz v0,Q0 v1,Lz v2]),(1,AV.agg [Lz v3,Lz v4,Iz v5])] [] 0 (by simp) (by simp) ?_;refine SW trivial [] [none,none,none] [0,1] [(2,AV.ptr 0 0),(3,AV.ptr 1 0)] [] [(0,.cells [Iz v0,Q0 v1,Lz v2]),(1,.cells [Lz v3,Lz v4,Iz v5])] 2 ?_;refine AW.seq fun K16 hK16=>?_;obtain ⟨v7,h1,hF⟩:=AaH hF;refine CL trivial [] [none,none,none] (Agi k _ _ _ _ h1) [] [(7,AV.bool (v7 !=0))] [] [] 2 ?_;by_cases h2 : v7≠0
 ·replace hF:=AaN h2 hF;have h2_:=AbR h2;have h2__:=AbW h2;have F1:=A3 h2 h2_ h2__;refine CT (by simp [F1] <;> omega) ?_;refine SW F1 [] [none] [2,3,7] [(4,Iz 14)] [0,1] [] 2 ?_;simp only [Option.some.injEq] at hF;subst hF;refine AW.ret (hQ _ _ _ ?_ (AaE ?_)).1
  ·simp [Try.f38,F1]
  ·simp [F1]
 ·replace hF:=AaO h2 hF;have h2q : v7=0:=Classical.not_not.1 h2;have h2_:=AbY h2q;have h2__:=AbX h2q;have F2:=A3 h2_ h2__ h2q;refine CF (by simp [F2] <;> omega) ?_;refine AW.skip ?_;refine hK16 _ _ _ ?_;refine AW.seq fun K21 hK21=>?_;obtain ⟨v8,h3,hF⟩:=AaH hF;refine CL F2 [] [none,none,none,none] (Af3 k _ _ _ _ _ _ _ h3) [2,3,7] [(11,AV.bool (!v8))] [0,1] [] 2 ?_;by_cases h4 : (!v8)=true
  ·replace hF:=AaN h4 hF;have h4_:=h4;try simp at h4_
   have F3:=A3 F2 h4 h4_;refine CT (by simp [F3] <;> omega) ?_;refine SW F3 [] [none] [11] [(4,Iz 15)] [] [] 2 ?_;simp only [Option.some.injEq] at hF;subst hF;refine AW.ret (hQ _ _ _ ?_ (AaE ?_)).1
   ·simp [Try.f38,F3]
   ·simp [F3]
  ·replace hF:=AaO h4 hF;have h4_:=h4;try simp at h4_
   have F4:=A3 F2 h4 h4_;refine CF (by simp [F4] <;> omega) ?_;refine AW.skip ?_;refine hK21 _ _ _ ?_;refine SW F4 [] [none] [11] [(4,Iz 0)] [] [] 2 ?_;simp only [Option.some.injEq] at hF;subst hF;refine AW.ret (hQ _ _ _ ?_ (AaE ?_)).1
   ·simp [Try.f38,F4]
   ·simp [F4]
theorem Agg (k : Nat) (v0 : (List Int)) (v1 : (List Int)) (v2 : (List Int)) (v3 : Int) (v4 : Int) (v5 : Int) (v6 : Int) (v7 : Int) (hF : Acw k v0 v1 v2 v3 v4 v5 v6=some v7) :
 AbA Try.prog 13 [AV.agg [AV.lst false false (List.map (AV.int .i64) v0),AV.lst false false (List.map (AV.int .i64) v1),AV.lst false false (List.map (AV.int .i64) v2),AV.int .i64 v3,AV.int .i64 v4,AV.int .i64 v5,AV.int .i64 v6]] [] (AV.int .i64 v7) []:=by
 unfold Acw at hF;refine EN Try.func13 ?_;intro c0 w0 Q h0 hQ
 refine WK [(0,AV.agg [Lz v0,Lz v1,Lz v2,Iz v3,Iz v4,Iz v5,Iz v6])] [] 0 (by simp) (by simp) ?_;refine SW trivial [] [none,none] [0] [(1,AV.ptr 0 0)] [] [(0,.cells [Lz v0,Lz v1,Lz v2,Iz v3,Iz v4,Iz v5,Iz v6])] 1 ?_;refine AW.seq fun K33 hK33=>?_;obtain ⟨v8,h1,hF⟩:=AaH hF;refine CL trivial [] [none,none,none,none] (Agf k _ _ h1) [] [(7,AV.bool (!v8))] [] [] 1 ?_;by_cases h2 : (!v8)=true
 ·replace hF:=AaN h2 hF;have h2_:=h2;try simp at h2_
  refine CT (by simp [h2,h2_] <;> omega) ?_;refine SW (A2 h2 h2_) [] [none] [1,7] [(2,Iz 43)] [0] [] 1 ?_;simp only [Option.some.injEq] at hF;subst hF;refine AW.ret (hQ _ _ _ ?_ (AaE ?_)).1
  ·simp [Try.f13,h2,h2_]
  ·simp [h2,h2_]
 ·replace hF:=AaO h2 hF;have h2_:=h2;try simp at h2_
  refine CF (by simp [h2,h2_] <;> omega) ?_;refine AW.skip ?_;refine hK33 _ _ _ ?_;refine AW.seq fun K39 hK39=>?_;refine SR [] [none,none,none,none,none] fun _ _ g r=>?_;try simp [h2,h2_]
  and_intros
  try any_goals first | omega | (simp [h2,h2_,maxLen] <;> omega)
  obtain ⟨v9,h3,hF⟩:=AaH hF;refine AC (Agh k _ _ _ _ _ _ _ h3) (.cons (.agg (.cons (.same (by simp [h2,h2_])) (.cons (Coe.fl (by simp [h2,h2_])) (.cons (Coe.fl (by simp [h2,h2_])) .nil)))) (.cons (.same (by simp [h2,h2_])) .nil)) ?_;refine TL (A2 h2 h2_) g r [7] [(3,Iz v9)] [] [] 1 ?_;refine SW (A2 h2 h2_) [] [none,none] [] [(13,AV.bool (v9 !=0))] [] [] 1 ?_;by_cases h4 : v9≠0
  ·replace hF:=AaN h4 hF;have h4_:=AbR h4;have h4__:=AbW h4;have F1:=A5 h2 h2_ h4 h4_ h4__;refine CT (by simp [F1] <;> omega) ?_;refine SW F1 [] [none,none] [1,3,13] [(2,Iz v9)] [0] [] 1 ?_;simp only [Option.some.injEq] at hF;subst hF;refine AW.ret (hQ _ _ _ ?_ (AaE ?_)).1
   ·simp [Try.f13,F1]
   ·simp [F1]
  ·replace hF:=AaO h4 hF;have h4q : v9=0:=Classical.not_not.1 h4;have h4_:=AbY h4q;have h4__:=AbX h4q;refine CF (by simp [h2,h2_,h4_,h4__,h4q] <;> omega) ?_;refine AW.skip ?_;refine hK39 _ _ _ ?_;refine AW.seq fun K50 hK50=>?_;refine SR [] [none,none,none,none,some (18,false),some (18,false),some (18,false),none,none,some (23,false),some (23,false),some (23,false),none,none,some (28,false),some (28,false),some (28,false),none,none,some (33,false),some (33,false),some (33,false),none,none,some (38,false),some (38,false),some (38,false),none] fun _ _ g r=>?_;by_cases h5 : v4<1
   ·replace hF:=AaN h5 hF;have h5_:=h5;try simp at h5_
    have F2:=A7 h2 h2_ h4_ h4__ h4q h5 h5_;refine TL F2 g r [1,3,13] [(42,AV.bool true)] [0] [] 1 ?_;refine CT (by simp [F2]) ?_;refine SW F2 [] [none] [42] [(2,Iz 40)] [] [] 1 ?_;simp only [Option.some.injEq] at hF;subst hF;refine AW.ret (hQ _ _ _ ?_ (AaE ?_)).1
    ·simp [Try.f13,F2]
    ·simp [F2]
   ·replace hF:=AaO h5 hF;have h5_:=h5;try simp at h5_
    by_cases h6 : 9<v4
    ·replace hF:=AaN h6 hF;have h6_:=h6;try simp at h6_
     have F3:=A9 h2 h2_ h4_ h4__ h4q h5 h5_ h6 h6_;refine TL F3 g r [1,3,13] [(42,AV.bool true)] [0] [] 1 ?_;refine CT (by simp [F3]) ?_;refine SW F3 [] [none] [42] [(2,Iz 40)] [] [] 1 ?_;simp only [Option.some.injEq] at hF;subst hF;refine AW.ret (hQ _ _ _ ?_ (AaE ?_)).1
     ·simp [Try.f13,F3]
     ·simp [F3]
    ·replace hF:=AaO h6 hF;have h6_:=h6;try simp at h6_
     by_cases h7 : v5<1
     ·replace hF:=AaN h7 hF;have h7_:=h7;try simp at h7_
      have F4:=A9 h2 h2_ h4_ h4__ h4q h5 h5_ h6 (A3 h6_ h7 h7_);refine TL F4 g r [1,3,13] [(42,AV.bool true)] [0] [] 1 ?_;refine CT (by simp [F4]) ?_;refine SW F4 [] [none] [42] [(2,Iz 40)] [] [] 1 ?_;simp only [Option.some.injEq] at hF;subst hF;refine AW.ret (hQ _ _ _ ?_ (AaE ?_)).1
      ·simp [Try.f13,F4]
      ·simp [F4]
     ·replace hF:=AaO h7 hF;have h7_:=h7;try simp at h7_
      by_cases h8 : 1000000<v5
      ·replace hF:=AaN h8 hF;have h8_:=h8;try simp at h8_
       have F5:=A9 h2 h2_ h4_ h4__ h4q h5 h5_ h6 (A5 h6_ h7 h7_ h8 h8_);refine TL F5 g r [1,3,13] [(42,AV.bool true)] [0] [] 1 ?_;refine CT (by simp [F5]) ?_;refine SW F5 [] [none] [42] [(2,Iz 40)] [] [] 1 ?_;simp only [Option.some.injEq] at hF;subst hF;refine AW.ret (hQ _ _ _ ?_ (AaE ?_)).1
       ·simp [Try.f13,F5]
       ·simp [F5]
      ·replace hF:=AaO h8 hF;have h8_:=h8;try simp at h8_
       by_cases h9 : v6<0
       ·replace hF:=AaN h9 hF;have h9_:=h9;try simp at h9_
        have F6:=A9 h2 h2_ h4_ h4__ h4q h5 h5_ h6 (A7 h6_ h7 h7_ h8 h8_ h9 h9_);refine TL F6 g r [1,3,13] [(42,AV.bool true)] [0] [] 1 ?_;refine CT (by simp [F6]) ?_;refine SW F6 [] [none] [42] [(2,Iz 40)] [] [] 1 ?_;simp only [Option.some.injEq] at hF;subst hF;refine AW.ret (hQ _ _ _ ?_ (AaE ?_)).1
        ·simp [Try.f13,F6]
        ·simp [F6]
       ·replace hF:=AaO h9 hF;have h9_:=h9;try simp at h9_
        have F7:=A9 h2 h2_ h4_ h4__ h4q h5 h5_ h6 (A7 h6_ h7 h7_ h8 h8_ h9 h9_);refine TL F7 g r [1,3,13] [(42,AV.bool (decide (64<v6)))] [0] [] 1 ?_;by_cases h10 : 64<v6
        ·replace hF:=AaN h10 hF;have h10_:=h10;try simp at h10_
         have F8:=A3 F7 h10 h10_;refine CT (by simp [F8] <;> omega) ?_;refine SW F8 [] [none] [42] [(2,Iz 40)] [] [] 1 ?_;simp only [Option.some.injEq] at hF;subst hF;refine AW.ret (hQ _ _ _ ?_ (AaE ?_)).1
         ·simp [Try.f13,F8]
         ·simp [F8]
        ·replace hF:=AaO h10 hF;have h10_:=h10;try simp at h10_
         have F9:=A3 F7 h10 h10_;refine CF (by simp [F9] <;> omega) ?_;refine AW.skip ?_;refine hK50 _ _ _ ?_;refine SW F9 [] [none] [42] [(2,Iz 0)] [] [] 1 ?_;simp only [Option.some.injEq] at hF;subst hF;refine AW.ret (hQ _ _ _ ?_ (AaE ?_)).1
         ·simp [Try.f13,F9]
         ·simp [F9]
theorem AeI (k : Nat) (v0 : (List Int)) (v1 : Int) (v2 : (List Int)) (hF : Aa9 k v0 v1=some v2) :
 AbA Try.prog 78 [AV.slc 0 0 1 v0.length false,AV.int .i64 v1] [.grow (List.map (AV.int .u8) v0)] (AV.slc 1 0 1 v2.length false) [none,some (.grow (List.map (AV.int .u8) v2))]:=by
 unfold Aa9 at hF;refine EN Try.func78 ?_;intro c0 w0 Q h0 hQ
 refine WK [(0,AV.slc 0 0 1 v0.length false),(1,Iz v1)] [(0,.grow (List.map (AV.int .u8) v0))] 1 (by simp) (by simp) ?_;refine SW trivial [] [none] [] [] [] [] 1 ?_;refine SW trivial [] [none,none,none] [1] [(5,AV.int .u64 (IntKind.wrap .u64 v1))] [] [] 1 ?_;refine AW.seq fun K97 hK97=>?_;refine SW trivial [] [none] [] [(6,Iz 7)] [] [] 1 ?_;refine AW.block ?_;refine AW.rnm (m:=1) h0 [(1,0)] [(0,AV.slc 1 0 1 v0.length false),(5,AV.int .u64 (IntKind.wrap .u64 v1)),(6,Iz 7)] [(1,.grow (List.map (AV.int .u8) v0))] 2 (by decide) (by decide) (by decide) rfl (by simp) (by simp) ?_;refine AW.loopF (α:=(Int×(List Int))) (fun n (v3,v4)=>Aa9.L1 k v1 n v3 v4=some v2) (fun (v3,v4)=>[(0,AV.slc 1 0 1 v4.length false),(5,AV.int .u64 (IntKind.wrap .u64 v1)),(6,Iz v3)]) (fun (v3,v4)=>[(1,.grow (List.map (AV.int .u8) v4))]) 2 k ((7,v0)) hF (by simp) (by simp) (by simp) ?_;rintro (_|n1) ⟨v3,v4⟩ hF K120 hK120
 ·try dsimp only at hF
  rw [Aa9.L1] at hF; cases hF
 try dsimp only at hF
 rw [Aa9.L1] at hF;refine AW.seq fun K122 hK122=>?_;refine SW trivial [] [none,none] [] [(10,AV.bool (decide (0≤v3)))] [] [] 2 ?_;by_cases h1 : 0≤v3
 ·replace hF:=AaN h1 hF;have h1_:=h1;try simp at h1_
  refine CT (by simp [h1,h1_] <;> omega) ?_;refine AW.skip ?_;refine hK122 _ _ _ ?_;refine AW.seq fun K125 hK125=>?_;refine AW.block ?_;refine RG [] [none,none,none,none,none,none,none,none,none,none] fun _ _ g r=>?_;obtain ⟨h2,hF⟩:=AaJ hF;obtain ⟨h3,hF⟩:=AaJ hF;have h3_:=h3;try simp at h3_
  have F1:=A4 h1 h1_ h2 h3;try simp [F1]
  and_intros <;> first | exact GK g | apply r | omega | (simp [maxLen,F1] <;> omega)
  refine hK125 _ _ _ ?_;refine WK [(0,AV.slc 2 0 1 ((v4++([IntKind.wrap .u8 (Int.fdiv (IntKind.wrap .u64 v1) (2 ^ (min ((IntKind.wrap .u64 (IntKind.wrap .i64 (8*v3))).toNat) 64)))] : List Int)).length) false),(5,AV.int .u64 (IntKind.wrap .u64 v1)),(6,Iz v3)] [(2,.grow (List.map (AV.int .u8) (v4++([IntKind.wrap .u8 (Int.fdiv (IntKind.wrap .u64 v1) (2 ^ (min ((IntKind.wrap .u64 (IntKind.wrap .i64 (8*v3))).toNat) 64)))] : List Int))))] 3 (by simp [F1] <;> omega) (by simp [F1]) ?_;refine RG [] [none,none,none] fun _ _ g r=>?_;try simp [F1]
  and_intros <;> first | exact GK g | apply r | omega | (simp [maxLen,F1] <;> omega)
  refine hK120 _ _ _ ?_;refine Can.weak [(0,AV.slc 2 0 1 ((v4++([IntKind.wrap .u8 (Int.fdiv (IntKind.wrap .u64 v1) (2 ^ (min ((IntKind.wrap .u64 (IntKind.wrap .i64 (8*v3))).toNat) 64)))] : List Int)).length) false),(5,AV.int .u64 (IntKind.wrap .u64 v1)),(6,Iz (IntKind.wrap .i64 (v3-1)))] [(2,.grow (List.map (AV.int .u8) (v4++([IntKind.wrap .u8 (Int.fdiv (IntKind.wrap .u64 v1) (2 ^ (min ((IntKind.wrap .u64 (IntKind.wrap .i64 (8*v3))).toNat) 64)))] : List Int))))] 3 (by simp [F1] <;> omega) (by simp [F1]) (by simp) ?_;refine Can.ren (m:=1) h0 [(1,2)] [(0,AV.slc 1 0 1 ((v4++([IntKind.wrap .u8 (Int.fdiv (IntKind.wrap .u64 v1) (2 ^ (min ((IntKind.wrap .u64 (IntKind.wrap .i64 (8*v3))).toNat) 64)))] : List Int)).length) false),(5,AV.int .u64 (IntKind.wrap .u64 v1)),(6,Iz (IntKind.wrap .i64 (v3-1)))] [(1,.grow (List.map (AV.int .u8) (v4++([IntKind.wrap .u8 (Int.fdiv (IntKind.wrap .u64 v1) (2 ^ (min ((IntKind.wrap .u64 (IntKind.wrap .i64 (8*v3))).toNat) 64)))] : List Int))))] 2 (by decide) (by decide) (by decide) rfl (by simp [F1]) (by simp [F1]) ?_;exact NX (k':=n1) ((IntKind.wrap .i64 (v3-1),v4++([IntKind.wrap .u8 (Int.fdiv (IntKind.wrap .u64 v1) (2 ^ (min ((IntKind.wrap .u64 (IntKind.wrap .i64 (8*v3))).toNat) 64)))] : List Int))) hF (by simp [F1]) (by simp [F1])
 ·replace hF:=AaO h1 hF;have h1_:=h1;try simp at h1_
  refine CF (by simp [h1,h1_] <;> omega) ?_;refine AW.exit ?_;try simp
  refine hK97 _ _ _ ?_;refine SW (A2 h1 h1_) [] [none,none] [0,5,6] [(4,AV.slc 1 0 1 v4.length false)] [] [] 2 ?_;simp only [Option.some.injEq] at hF;subst hF;refine AW.ret (hQ _ _ _ ?_ (AaE ?_)).1
  ·simp [Try.f78,h1,h1_]
  ·simp [h1,h1_]
theorem Ac5 (k : Nat) (v0 : (List Int)) (v1 : (List Int)) (v2 : (List Int)) (hF : AbE k v0 v1=some v2) :
 AbA Try.prog 45 [AV.slc 0 0 1 v0.length false,AV.lst false false (List.map (AV.int .i64) v1)] [.grow (List.map (AV.int .u8) v0)] (AV.slc 1 0 1 v2.length false) [none,some (.grow (List.map (AV.int .u8) v2))]:=by
 unfold AbE at hF;refine EN Try.func45 ?_;intro c0 w0 Q h0 hQ
 refine WK [(0,AV.slc 0 0 1 v0.length false),(1,Lz v1)] [(0,.grow (List.map (AV.int .u8) v0))] 1 (by simp) (by simp) ?_;refine SW trivial [] [none] [] [] [] [] 1 ?_;refine SR [] [none,none,none,none,none] fun _ _ g r=>?_;try simp
 and_intros
 try any_goals first | omega | (simp [maxLen] <;> omega)
 obtain ⟨v3,h1,hF⟩:=AaH hF;refine Aa6 (AeI k _ _ _ h1) (by simp) [0] [] [0] rfl (.cons (.same (by simp)) (.cons (.same (by simp)) .nil)) (by simp) (by decide) (by simp) (by simp) (.inl rfl) (by simp) (by simp) ?_;refine TL trivial g r [0] [(0,AV.slc 1 0 1 v3.length false)] [0] [(1,.grow (List.map (AV.int .u8) v3))] 2 ?_;refine AW.seq fun K97 hK97=>?_;refine SW trivial [] [none] [] [(5,Iz 0)] [] [] 2 ?_;refine AW.block ?_;refine AW.loopF (α:=(Int×(List Int))) (fun n (v4,v5)=>AbE.L1 k v1 n v4 v5=some v2) (fun (v4,v5)=>[(0,AV.slc 1 0 1 v5.length false),(1,Lz v1),(5,Iz v4)]) (fun (v4,v5)=>[(1,.grow (List.map (AV.int .u8) v5))]) 2 k ((0,v3)) hF (by simp) (by simp) (by simp) ?_;rintro (_|n1) ⟨v4,v5⟩ hF K120 hK120
 ·try dsimp only at hF
  rw [AbE.L1] at hF; cases hF
 try dsimp only at hF
 rw [AbE.L1] at hF;refine AW.seq fun K122 hK122=>?_;refine SW trivial [] [none,none,none,none] [] [(13,AV.bool (decide (v4<(v1.length : Int))))] [] [] 2 ?_;by_cases h2 : v4<(v1.length : Int)
 ·replace hF:=AaN h2 hF;have h2_:=h2;try simp at h2_
  refine CT (by simp [h2,h2_] <;> omega) ?_;refine AW.skip ?_;refine hK122 _ _ _ ?_;refine AW.seq fun K125 hK125=>?_;refine AW.block ?_;refine RG [] [none,none,none,none,none,none,none] fun _ _ g r=>?_;obtain ⟨v6,h3,h4,h5,hF⟩:=AaM hF;have h5_:=Aaf h5;try simp at h5_
  have h4_:=h4;try simp at h4_
  have F1:=A7 h2 h2_ h3 h4 h5 h5_ h4_;try simp [F1]
  and_intros
  try any_goals first | omega | (simp [maxLen,F1] <;> omega)
  obtain ⟨v7,h6,hF⟩:=AaH hF;refine Aa6 (AeI k _ _ _ h6) (by simp) [1] [] [1] rfl (.cons (.same (by simp [F1])) (.cons (.same (by simp [F1])) .nil)) (by simp [F1]) (by decide) (by simp) (by simp) (.inl rfl) (by simp) (by simp) ?_;try simp [F1]
  and_intros <;> first | exact GK g | apply r | omega | (simp [maxLen,F1] <;> omega)
  refine hK125 _ _ _ ?_;refine WK [(0,AV.slc 2 0 1 v7.length false),(1,Lz v1),(5,Iz v4)] [(2,.grow (List.map (AV.int .u8) v7))] 3 (by simp [F1]) (by simp [F1]) ?_;refine RG [] [none,none,none] fun _ _ g r=>?_;try simp [F1]
  and_intros <;> first | exact GK g | apply r | omega | (simp [maxLen,F1] <;> omega)
  refine hK120 _ _ _ ?_;refine Can.weak [(0,AV.slc 2 0 1 v7.length false),(1,Lz v1),(5,Iz (IntKind.wrap .i64 (v4+1)))] [(2,.grow (List.map (AV.int .u8) v7))] 3 (by simp [F1]) (by simp [F1]) (by simp) ?_;refine Can.ren (m:=1) h0 [(1,2)] [(0,AV.slc 1 0 1 v7.length false),(1,Lz v1),(5,Iz (IntKind.wrap .i64 (v4+1)))] [(1,.grow (List.map (AV.int .u8) v7))] 2 (by decide) (by decide) (by decide) rfl (by simp [F1]) (by simp [F1]) ?_;exact NX (k':=n1) ((IntKind.wrap .i64 (v4+1),v7)) hF (by simp [F1]) (by simp [F1])
 ·replace hF:=AaO h2 hF;have h2_:=h2;try simp at h2_
  refine CF (by simp [h2,h2_] <;> omega) ?_;refine AW.exit ?_;try simp
  refine hK97 _ _ _ ?_;refine SW (A2 h2 h2_) [] [none,none] [0,1,5] [(4,AV.slc 1 0 1 v5.length false)] [] [] 2 ?_;simp only [Option.some.injEq] at hF;subst hF;refine AW.ret (hQ _ _ _ ?_ (AaE ?_)).1
  ·simp [Try.f45,h2,h2_]
  ·simp [h2,h2_]
theorem Ae5 (k : Nat) (v0 : (List Int)) (hF : Abw k=some v0) :
 AbA Try.prog 79 [] [] (AV.lst false false (List.map (AV.int .u32) v0)) []:=by
 unfold Abw at hF;refine EN Try.func79 ?_;intro c0 w0 Q h0 hQ
 refine WK [] [] 0 (by simp) (by simp) ?_;refine SW trivial [] [none] [] [] [] [] 0 ?_;refine SW trivial [] [none,none] [] [(0,AV.lst false true (List.map (AV.int .u32) ([1116352408,1899447441,3049323471,3921009573,961987163,1508970993,2453635748,2870763221,3624381080,310598401,607225278,1426881987,1925078388,2162078206,2614888103,3248222580,3835390401,4022224774,264347078,604807628,770255983,1249150122,1555081692,1996064986,2554220882,2821834349,2952996808,3210313671,3336571891,3584528711,113926993,338241895,666307205,773529912,1294757372,1396182291,1695183700,1986661051,2177026350,2456956037,2730485921,2820302411,3259730800,3345764771,3516065817,3600352804,4094571909,275423344,430227734,506948616,659060556,883997877,958139571,1322822218,1537002063,1747873779,1955562222,2024104815,2227730452,2361852424,2428436474,2756734187,3204031479,3329325298] : List Int)))] [] [] 0 ?_;refine AW.flg [(0,Lw ([1116352408,1899447441,3049323471,3921009573,961987163,1508970993,2453635748,2870763221,3624381080,310598401,607225278,1426881987,1925078388,2162078206,2614888103,3248222580,3835390401,4022224774,264347078,604807628,770255983,1249150122,1555081692,1996064986,2554220882,2821834349,2952996808,3210313671,3336571891,3584528711,113926993,338241895,666307205,773529912,1294757372,1396182291,1695183700,1986661051,2177026350,2456956037,2730485921,2820302411,3259730800,3345764771,3516065817,3600352804,4094571909,275423344,430227734,506948616,659060556,883997877,958139571,1322822218,1537002063,1747873779,1955562222,2024104815,2227730452,2361852424,2428436474,2756734187,3204031479,3329325298] : List Int))] [] ⟨(.lst (by simp)),trivial⟩ trivial (by simp) ?_;simp only [Option.some.injEq] at hF;subst hF;refine AW.ret (hQ _ _ _ ?_ (AaE ?_)).1
 ·simp [Try.f79]
 ·simp
theorem Abc (k : Nat) (v0 : Int) (v1 : Int) (v2 : Int) (hF : Aai k v0 v1=some v2) :
 AbA Try.prog 113 [AV.int .u32 v0,AV.int .u64 v1] [] (AV.int .u32 v2) []:=by
 unfold Aai at hF;refine EN Try.func113 ?_;intro c0 w0 Q h0 hQ
 refine WK [(0,AV.int .u32 v0),(1,AV.int .u64 v1)] [] 0 (by simp) (by simp) ?_;refine SW trivial [] [none] [] [] [] [] 0 ?_;refine SR [] [none,none,none,none,none,none,none,none,none] fun _ _ g r=>?_;obtain ⟨h1,hF⟩:=AaJ hF;obtain ⟨h2,hF⟩:=AaJ hF;refine TL (A2 h1 h2) g r [0,1] [(4,AV.int .u32 (AaF .or .u32 (Int.fdiv v0 (2 ^ (min v1.toNat 32))) (IntKind.wrap .u32 (v0*2 ^ (min ((IntKind.wrap .u64 (32-v1)).toNat) 32)))))] [] [] 0 ?_;simp only [Option.some.injEq] at hF;subst hF;refine AW.ret (hQ _ _ _ ?_ (AaE ?_)).1
 ·simp [Try.f113,h1,h2]
 ·simp [h1,h2]
theorem Agj (k : Nat) (v0 : (List Int)) (v1 : (List Int)) (v2 : (List Int)) (v3 : (List Int)) (hF : AaR k v0 v1 v2=some v3) :
 AbA Try.prog 80 [AV.lst false false (List.map (AV.int .u32) v0),AV.lst false false (List.map (AV.int .u8) v1),AV.lst false false (List.map (AV.int .u32) v2)] [] (AV.slc 0 0 1 v3.length false) [some (.grow (List.map (AV.int .u32) v3))]:=by
 unfold AaR at hF;refine EN Try.func80 ?_;intro c0 w0 Q h0 hQ
 refine WK [(0,Lw v0),(1,Lb v1),(2,Lw v2)] [] 0 (by simp [-List.reduceReplicate,AaC,AaD,AaA]) (by simp [-List.reduceReplicate,AaC,AaD,AaA]) ?_;refine SQ [] [none] fun _ _ g r=>?_;try simp [-List.reduceReplicate,AaC,AaD,AaA]
 and_intros <;> first | exact GK g | apply r | omega | (simp [-List.reduceReplicate,AaC,AaD,AaA,maxLen] <;> omega)
 refine WK [(0,Lw v0),(1,Lb v1),(2,Lw v2)] [] 0 (by simp [-List.reduceReplicate,AaC,AaD,AaA]) (by simp [-List.reduceReplicate,AaC,AaD,AaA]) ?_;refine SQ [19] [none,none] fun _ _ g r=>?_;obtain ⟨h1,hF⟩:=AaJ hF;obtain ⟨v4,h2,hF⟩:=Ahc hF;have h2l : v4.length=64:=by rw [← h2]; exact List.length_replicate
 have h2m : List.replicate 64 (AV.int .u32 0)=List.map (AV.int .u32) v4:=by rw [← h2]; exact (List.map_replicate ..).symm
 have h2n:=AdR h2l (by decide);have F1:=A4 h1 h2l h2m h2n;try simp [-List.reduceReplicate,AaC,AaD,AaA,F1]
 and_intros <;> first | exact GK g | apply r | omega | (simp [-List.reduceReplicate,AaC,AaD,AaA,maxLen,F1] <;> omega)
 refine WK [(0,Lw v0),(1,Lb v1),(2,Lw v2),(7,AV.slc 0 0 1 v4.length true)] [(0,.cells (List.map (AV.int .u32) v4))] 1 (by simp [-List.reduceReplicate,AaC,AaD,AaA,F1]) (by simp [-List.reduceReplicate,AaC,AaD,AaA,F1]) ?_;refine AW.seq fun K393 hK393=>?_;refine SQ [] [none] fun _ _ g r=>?_;try simp [-List.reduceReplicate,AaC,AaD,AaA,F1]
 and_intros <;> first | exact GK g | apply r | omega | (simp [-List.reduceReplicate,AaC,AaD,AaA,maxLen,F1] <;> omega)
 refine WK [(0,Lw v0),(1,Lb v1),(2,Lw v2),(7,AV.slc 0 0 1 v4.length true),(8,Iz 0)] [(0,.cells (List.map (AV.int .u32) v4))] 1 (by simp [-List.reduceReplicate,AaC,AaD,AaA,F1]) (by simp [-List.reduceReplicate,AaC,AaD,AaA,F1]) ?_;refine AW.block ?_;refine AW.loopF (α:=(Int×(List Int))) (fun n (v5,v6)=>AaR.L1 k v0 v1 v2 n v5 v6=some v3) (fun (v5,v6)=>[(0,Lw v0),(1,Lb v1),(2,Lw v2),(7,AV.slc 0 0 1 v6.length true),(8,Iz v5)]) (fun (v5,v6)=>[(0,.cells (List.map (AV.int .u32) v6))]) 1 k ((0,v4)) hF (by simp [-List.reduceReplicate,AaC,AaD,AaA,F1]) (by simp [-List.reduceReplicate,AaC,AaD,AaA,F1]) (by simp) ?_;rintro (_|n1) ⟨v5,v6⟩ hF K416 hK416
 ·try dsimp only at hF
  rw [AaR.L1] at hF; cases hF
 try dsimp only at hF
 rw [AaR.L1] at hF;refine AW.seq fun K418 hK418=>?_;refine SQ [] [none,none] fun _ _ g r=>?_;try simp [-List.reduceReplicate,AaC,AaD,AaA,F1]
 and_intros <;> first | exact GK g | apply r | omega | (simp [-List.reduceReplicate,AaC,AaD,AaA,maxLen,F1] <;> omega)
 refine WK [(0,Lw v0),(1,Lb v1),(2,Lw v2),(7,AV.slc 0 0 1 v6.length true),(8,Iz v5),(21,AV.bool (decide (v5<16)))] [(0,.cells (List.map (AV.int .u32) v6))] 1 (by simp [-List.reduceReplicate,AaC,AaD,AaA,F1]) (by simp [-List.reduceReplicate,AaC,AaD,AaA,F1]) ?_;by_cases h3 : v5<16
 ·replace hF:=AaN h3 hF;have h3_:=h3;try simp [-List.reduceReplicate] at h3_
  have F2:=A3 F1 h3 h3_;refine CT (by simp [-List.reduceReplicate,AaC,AaD,AaA,F2] <;> omega) ?_;refine AW.skip ?_;refine hK418 _ _ _ ?_;refine AW.seq fun K421 hK421=>?_;refine AW.block ?_;refine RG [] [none,none,none,none,none,none,none,none,none,none,none,none,none,none,none,none,none,none,none,none,none,none,none,none,none,none,none,none,none,none,none,none,none,none,none,none,none] fun _ _ g r=>?_;obtain ⟨v7,h4,h5,h6,hF⟩:=AaM hF;have h6_:=Aaf h6;try simp [-List.reduceReplicate] at h6_
  have h5_:=h5;try simp [-List.reduceReplicate] at h5_
  obtain ⟨v8,h7,h8,h9,hF⟩:=AaM hF;have h9_:=Aaf h9;try simp [-List.reduceReplicate] at h9_
  have h8_:=h8;try simp [-List.reduceReplicate] at h8_
  obtain ⟨v9,h10,h11,h12,hF⟩:=AaM hF;have h12_:=Aaf h12;try simp [-List.reduceReplicate] at h12_
  have h11_:=h11;try simp [-List.reduceReplicate] at h11_
  obtain ⟨v10,h13,h14,h15,hF⟩:=AaM hF;have h15_:=Aaf h15;try simp [-List.reduceReplicate] at h15_
  have h14_:=h14;try simp [-List.reduceReplicate] at h14_
  obtain ⟨⟨h16,h17⟩,hF⟩:=AaJ hF;have h17_:=Aal h17;have F3:=A9 F2 h4 h5 h6 h6_ h5_ h7 h8 (A9 h9 h9_ h8_ h10 h11 h12 h12_ h11_ (A8 h13 h14 h15 h15_ h14_ h16 h17 h17_));try simp [-List.reduceReplicate,AaC,AaD,AaA,F3]
  and_intros <;> first | exact GK g | apply r | omega | (simp [-List.reduceReplicate,AaC,AaD,AaA,maxLen,F3] <;> omega)
  refine hK421 _ _ _ ?_;refine WK [(0,Lw v0),(1,Lb v1),(2,Lw v2),(7,AV.slc 0 0 1 ((v6.set (v5).toNat (AaF .or .u32 (AaF .or .u32 (AaF .or .u32 (IntKind.wrap .u32 ((IntKind.wrap .u32 v7)*2 ^ (24))) (IntKind.wrap .u32 ((IntKind.wrap .u32 v8)*2 ^ (16)))) (IntKind.wrap .u32 ((IntKind.wrap .u32 v9)*2 ^ (8)))) (IntKind.wrap .u32 v10))).length) true),(8,Iz v5)] [(0,.cells (List.map (AV.int .u32) (v6.set (v5).toNat (AaF .or .u32 (AaF .or .u32 (AaF .or .u32 (IntKind.wrap .u32 ((IntKind.wrap .u32 v7)*2 ^ (24))) (IntKind.wrap .u32 ((IntKind.wrap .u32 v8)*2 ^ (16)))) (IntKind.wrap .u32 ((IntKind.wrap .u32 v9)*2 ^ (8)))) (IntKind.wrap .u32 v10)))))] 1 (by simp [-List.reduceReplicate,AaC,AaD,AaA,F3]) (by simp [-List.reduceReplicate,AaC,AaD,AaA,F3]) ?_;refine RG [] [none,none,none] fun _ _ g r=>?_;try simp [-List.reduceReplicate,AaC,AaD,AaA,F3]
  and_intros <;> first | exact GK g | apply r | omega | (simp [-List.reduceReplicate,AaC,AaD,AaA,maxLen,F3] <;> omega)
  refine hK416 _ _ _ ?_;exact NX (k':=n1) ((IntKind.wrap .i64 (v5+1),v6.set (v5).toNat (AaF .or .u32 (AaF .or .u32 (AaF .or .u32 (IntKind.wrap .u32 ((IntKind.wrap .u32 v7)*2 ^ (24))) (IntKind.wrap .u32 ((IntKind.wrap .u32 v8)*2 ^ (16)))) (IntKind.wrap .u32 ((IntKind.wrap .u32 v9)*2 ^ (8)))) (IntKind.wrap .u32 v10)))) hF (by simp [-List.reduceReplicate,AaC,AaD,AaA,F3]) (by simp [-List.reduceReplicate,AaC,AaD,AaA,F3])
 ·replace hF:=AaO h3 hF;have h3_:=h3;try simp [-List.reduceReplicate] at h3_
  have F4:=A3 F1 h3 h3_;refine CF (by simp [-List.reduceReplicate,AaC,AaD,AaA,F4] <;> omega) ?_;refine AW.exit ?_;try simp [-List.reduceReplicate]
  refine hK393 _ _ _ ?_;refine AW.seq fun K470 hK470=>?_;refine SQ [] [none] fun _ _ g r=>?_;try simp [-List.reduceReplicate,AaC,AaD,AaA,F4]
  and_intros <;> first | exact GK g | apply r | omega | (simp [-List.reduceReplicate,AaC,AaD,AaA,maxLen,F4] <;> omega)
  refine WK [(0,Lw v0),(2,Lw v2),(7,AV.slc 0 0 1 v6.length true),(9,Iz 16)] [(0,.cells (List.map (AV.int .u32) v6))] 1 (by simp [-List.reduceReplicate,AaC,AaD,AaA,F4]) (by simp [-List.reduceReplicate,AaC,AaD,AaA,F4]) ?_;refine AW.block ?_;refine AW.loopF (α:=(Int×(List Int))) (fun n (v11,v12)=>AaR.L2 k v0 v2 n v11 v12=some v3) (fun (v11,v12)=>[(0,Lw v0),(2,Lw v2),(7,AV.slc 0 0 1 v12.length true),(9,Iz v11)]) (fun (v11,v12)=>[(0,.cells (List.map (AV.int .u32) v12))]) 1 k ((16,v6)) hF (by simp [-List.reduceReplicate,AaC,AaD,AaA,F4]) (by simp [-List.reduceReplicate,AaC,AaD,AaA,F4]) (by simp) ?_;rintro (_|n2) ⟨v11,v12⟩ hF K505 hK505
  ·try dsimp only at hF
   rw [AaR.L2] at hF; cases hF
  try dsimp only at hF
  rw [AaR.L2] at hF;refine AW.seq fun K507 hK507=>?_;refine SQ [] [none,none] fun _ _ g r=>?_;try simp [-List.reduceReplicate,AaC,AaD,AaA,F4]
  and_intros <;> first | exact GK g | apply r | omega | (simp [-List.reduceReplicate,AaC,AaD,AaA,maxLen,F4] <;> omega)
  refine WK [(0,Lw v0),(2,Lw v2),(7,AV.slc 0 0 1 v12.length true),(9,Iz v11),(61,AV.bool (decide (v11<64)))] [(0,.cells (List.map (AV.int .u32) v12))] 1 (by simp [-List.reduceReplicate,AaC,AaD,AaA,F4]) (by simp [-List.reduceReplicate,AaC,AaD,AaA,F4]) ?_;by_cases h18 : v11<64
  ·replace hF:=AaN h18 hF;have h18_:=h18;try simp [-List.reduceReplicate] at h18_
   have F5:=A3 F4 h18 h18_;refine CT (by simp [-List.reduceReplicate,AaC,AaD,AaA,F5] <;> omega) ?_;refine AW.skip ?_;refine hK507 _ _ _ ?_;refine AW.seq fun K512 hK512=>?_;refine AW.block ?_;refine SQ [] [none,none,none,none,none,none,none,none,none,none,none,none,none,none,none,none,none,none,none,none,none] fun _ _ g r=>?_;obtain ⟨⟨h19,h20⟩,hF⟩:=AaJ hF;have h20_:=Aal h20;obtain ⟨v13,h21,h22,h23,hF⟩:=AaM hF;have h23_:=Aaf h23;try simp [-List.reduceReplicate] at h23_
   have h22_:=h22;try simp [-List.reduceReplicate] at h22_
   have F6:=A9 F5 h19 h20 h20_ h21 h22 h23 h23_ h22_;try simp [-List.reduceReplicate,AaC,AaD,AaA,F6]
   and_intros
   try any_goals first | omega | (simp [-List.reduceReplicate,AaC,AaD,AaA,maxLen,F6] <;> omega)
   obtain ⟨v14,h24,hF⟩:=AaH hF;refine AC (Abc k _ _ _ h24) (.cons (.same (by simp [-List.reduceReplicate,AaC,AaD,AaA,F6])) (.cons (.same (by simp [-List.reduceReplicate,AaC,AaD,AaA,F6])) .nil)) ?_;obtain ⟨⟨h25,h26⟩,hF⟩:=AaJ hF;have h26_:=Aal h26;have F7:=A4 F6 h25 h26 h26_;try simp [-List.reduceReplicate,AaC,AaD,AaA,F7]
   and_intros
   try any_goals first | omega | (simp [-List.reduceReplicate,AaC,AaD,AaA,maxLen,F7] <;> omega)
   obtain ⟨v15,h27,hF⟩:=AaH hF;refine AC (Abc k _ _ _ h27) (.cons (.same (by simp [-List.reduceReplicate,AaC,AaD,AaA,F7])) (.cons (.same (by simp [-List.reduceReplicate,AaC,AaD,AaA,F7])) .nil)) ?_;obtain ⟨⟨h28,h29⟩,hF⟩:=AaJ hF;have h29_:=Aal h29;have F8:=A4 F7 h28 h29 h29_;try simp [-List.reduceReplicate,AaC,AaD,AaA,F8]
   and_intros <;> first | exact GK g | apply r | omega | (simp [-List.reduceReplicate,AaC,AaD,AaA,maxLen,F8] <;> omega)
   refine WK [(0,Lw v0),(2,Lw v2),(7,AV.slc 0 0 1 v12.length true),(9,Iz v11),(10,AV.int .u32 (AaF .xor .u32 (AaF .xor .u32 v14 v15) (Int.fdiv v13 (2 ^ (3)))))] [(0,.cells (List.map (AV.int .u32) v12))] 1 (by simp [-List.reduceReplicate,AaC,AaD,AaA,F8]) (by simp [-List.reduceReplicate,AaC,AaD,AaA,F8]) ?_;refine SQ [] [none,none,none,none,none,none,none,none,none,none,none,none,none,none,none,none,none,none,none,none,none] fun _ _ g r=>?_;obtain ⟨⟨h30,h31⟩,hF⟩:=AaJ hF;have h31_:=Aal h31;obtain ⟨v16,h32,h33,h34,hF⟩:=AaM hF;have h34_:=Aaf h34;try simp [-List.reduceReplicate] at h34_
   have h33_:=h33;try simp [-List.reduceReplicate] at h33_
   have F9:=A9 F8 h30 h31 h31_ h32 h33 h34 h34_ h33_;try simp [-List.reduceReplicate,AaC,AaD,AaA,F9]
   and_intros
   try any_goals first | omega | (simp [-List.reduceReplicate,AaC,AaD,AaA,maxLen,F9] <;> omega)
   obtain ⟨v17,h35,hF⟩:=AaH hF;refine AC (Abc k _ _ _ h35) (.cons (.same (by simp [-List.reduceReplicate,AaC,AaD,AaA,F9])) (.cons (.same (by simp [-List.reduceReplicate,AaC,AaD,AaA,F9])) .nil)) ?_;obtain ⟨⟨h36,h37⟩,hF⟩:=AaJ hF;have h37_:=Aal h37;have F10:=A4 F9 h36 h37 h37_;try simp [-List.reduceReplicate,AaC,AaD,AaA,F10]
   and_intros
   try any_goals first | omega | (simp [-List.reduceReplicate,AaC,AaD,AaA,maxLen,F10] <;> omega)
   obtain ⟨v18,h38,hF⟩:=AaH hF;refine AC (Abc k _ _ _ h38) (.cons (.same (by simp [-List.reduceReplicate,AaC,AaD,AaA,F10])) (.cons (.same (by simp [-List.reduceReplicate,AaC,AaD,AaA,F10])) .nil)) ?_;obtain ⟨⟨h39,h40⟩,hF⟩:=AaJ hF;have h40_:=Aal h40;have F11:=A4 F10 h39 h40 h40_;try simp [-List.reduceReplicate,AaC,AaD,AaA,F11]
   and_intros <;> first | exact GK g | apply r | omega | (simp [-List.reduceReplicate,AaC,AaD,AaA,maxLen,F11] <;> omega)
   refine WK [(0,Lw v0),(2,Lw v2),(7,AV.slc 0 0 1 v12.length true),(9,Iz v11),(10,AV.int .u32 (AaF .xor .u32 (AaF .xor .u32 v14 v15) (Int.fdiv v13 (2 ^ (3))))),(11,AV.int .u32 (AaF .xor .u32 (AaF .xor .u32 v17 v18) (Int.fdiv v16 (2 ^ (10)))))] [(0,.cells (List.map (AV.int .u32) v12))] 1 (by simp [-List.reduceReplicate,AaC,AaD,AaA,F11]) (by simp [-List.reduceReplicate,AaC,AaD,AaA,F11]) ?_;refine RG [] [none,none,none,none,none,none,none,none,none,none,none,none,none,none,none,none,none,none,none] fun _ _ g r=>?_;obtain ⟨⟨h41,h42⟩,hF⟩:=AaJ hF;have h42_:=Aal h42;obtain ⟨v19,h43,h44,h45,hF⟩:=AaM hF;have h45_:=Aaf h45;try simp [-List.reduceReplicate] at h45_
   have h44_:=h44;try simp [-List.reduceReplicate] at h44_
   obtain ⟨⟨h46,h47⟩,hF⟩:=AaJ hF;have h47_:=Aal h47;obtain ⟨v20,h48,h49,h50,hF⟩:=AaM hF;have h50_:=Aaf h50;try simp [-List.reduceReplicate] at h50_
   have h49_:=h49;try simp [-List.reduceReplicate] at h49_
   obtain ⟨⟨h51,h52⟩,hF⟩:=AaJ hF;have h52_:=Aal h52;have F12:=A9 F11 h41 h42 h42_ h43 h44 h45 h45_ (A9 h44_ h46 h47 h47_ h48 h49 h50 h50_ (A4 h49_ h51 h52 h52_));try simp [-List.reduceReplicate,AaC,AaD,AaA,F12]
   and_intros <;> first | exact GK g | apply r | omega | (simp [-List.reduceReplicate,AaC,AaD,AaA,maxLen,F12] <;> omega)
   refine hK512 _ _ _ ?_;refine WK [(0,Lw v0),(2,Lw v2),(7,AV.slc 0 0 1 ((v12.set (v11).toNat (IntKind.wrap .u32 (IntKind.wrap .u32 (IntKind.wrap .u32 (v19+AaF .xor .u32 (AaF .xor .u32 v14 v15) (Int.fdiv v13 (2 ^ (3))))+v20)+AaF .xor .u32 (AaF .xor .u32 v17 v18) (Int.fdiv v16 (2 ^ (10)))))).length) true),(9,Iz v11)] [(0,.cells (List.map (AV.int .u32) (v12.set (v11).toNat (IntKind.wrap .u32 (IntKind.wrap .u32 (IntKind.wrap .u32 (v19+AaF .xor .u32 (AaF .xor .u32 v14 v15) (Int.fdiv v13 (2 ^ (3))))+v20)+AaF .xor .u32 (AaF .xor .u32 v17 v18) (Int.fdiv v16 (2 ^ (10))))))))] 1 (by simp [-List.reduceReplicate,AaC,AaD,AaA,F12]) (by simp [-List.reduceReplicate,AaC,AaD,AaA,F12]) ?_;refine RG [] [none,none,none] fun _ _ g r=>?_;try simp [-List.reduceReplicate,AaC,AaD,AaA,F12]
   and_intros <;> first | exact GK g | apply r | omega | (simp [-List.reduceReplicate,AaC,AaD,AaA,maxLen,F12] <;> omega)
   refine hK505 _ _ _ ?_;exact NX (k':=n2) ((IntKind.wrap .i64 (v11+1),v12.set (v11).toNat (IntKind.wrap .u32 (IntKind.wrap .u32 (IntKind.wrap .u32 (v19+AaF .xor .u32 (AaF .xor .u32 v14 v15) (Int.fdiv v13 (2 ^ (3))))+v20)+AaF .xor .u32 (AaF .xor .u32 v17 v18) (Int.fdiv v16 (2 ^ (10))))))) hF (by simp [-List.reduceReplicate,AaC,AaD,AaA,F12]) (by simp [-List.reduceReplicate,AaC,AaD,AaA,F12])
  ·replace hF:=AaO h18 hF;have h18_:=h18;try simp [-List.reduceReplicate] at h18_
   have F13:=A3 F4 h18 h18_;refine CF (by simp [-List.reduceReplicate,AaC,AaD,AaA,F13] <;> omega) ?_;refine AW.exit ?_;try simp [-List.reduceReplicate]
   refine hK470 _ _ _ ?_;refine WK [(0,Lw v0),(2,Lw v2),(7,AV.slc 0 0 1 v12.length true)] [(0,.cells (List.map (AV.int .u32) v12))] 1 (by simp [-List.reduceReplicate,AaC,AaD,AaA,F13]) (by simp [-List.reduceReplicate,AaC,AaD,AaA,F13]) ?_;refine AW.frz 0 (o := .cells (List.map (AV.int .u32) v12)) (by simp [-List.reduceReplicate,AaC,AaD,AaA,F13]) rfl [(7,AV.lst false true (List.map (AV.int .u32) v12))] [] ⟨(.l (by simp) (by simp) (by simp) (by simp)),trivial⟩ trivial ?_;refine WK [(0,Lw v0),(2,Lw v2),(7,AV.lst false true (List.map (AV.int .u32) v12))] [] 1 (by simp [-List.reduceReplicate,AaC,AaD,AaA,F13]) (by simp [-List.reduceReplicate,AaC,AaD,AaA,F13]) ?_;refine SQ [123] [none,none,none] fun _ _ g r=>?_;obtain ⟨h53,hF⟩:=AaJ hF;have h53_:=h53;try simp [-List.reduceReplicate] at h53_
   have F14:=A2 F13 h53;try simp [-List.reduceReplicate,AaC,AaD,AaA,F14]
   and_intros <;> first | exact GK g | apply r | omega | (simp [-List.reduceReplicate,AaC,AaD,AaA,maxLen,F14] <;> omega)
   refine WK [(0,Lw v0),(2,Lw v2),(7,AV.lst false true (List.map (AV.int .u32) v12)),(12,AV.slc 1 0 1 v0.length false)] [(1,.grow (List.map (AV.int .u32) v0))] 2 (by simp [-List.reduceReplicate,AaC,AaD,AaA,F14]) (by simp [-List.reduceReplicate,AaC,AaD,AaA,F14]) ?_;refine AW.seq fun K588 hK588=>?_;refine SQ [] [none] fun _ _ g r=>?_;try simp [-List.reduceReplicate,AaC,AaD,AaA,F14]
   and_intros <;> first | exact GK g | apply r | omega | (simp [-List.reduceReplicate,AaC,AaD,AaA,maxLen,F14] <;> omega)
   refine WK [(0,Lw v0),(2,Lw v2),(7,AV.lst false true (List.map (AV.int .u32) v12)),(12,AV.slc 1 0 1 v0.length false),(13,Iz 0)] [(1,.grow (List.map (AV.int .u32) v0))] 2 (by simp [-List.reduceReplicate,AaC,AaD,AaA,F14]) (by simp [-List.reduceReplicate,AaC,AaD,AaA,F14]) ?_;refine AW.block ?_;refine RM h0 [(0,1)] [(0,Lw v0),(2,Lw v2),(7,AV.lst false true (List.map (AV.int .u32) v12)),(12,AV.slc 0 0 1 v0.length false),(13,Iz 0)] [(0,.grow (List.map (AV.int .u32) v0))] 1 (by simp [-List.reduceReplicate,AaC,AaD,AaA,F14]) (by simp [-List.reduceReplicate,AaC,AaD,AaA,F14]) ?_;refine AW.loopF (α:=(Int×(List Int))) (fun n (v21,v22)=>AaR.L3 k v0 v2 v12 n v21 v22=some v3) (fun (v21,v22)=>[(0,Lw v0),(2,Lw v2),(7,AV.lst false true (List.map (AV.int .u32) v12)),(12,AV.slc 0 0 1 v22.length false),(13,Iz v21)]) (fun (v21,v22)=>[(0,.grow (List.map (AV.int .u32) v22))]) 1 k ((0,v0)) hF (by simp [-List.reduceReplicate,AaC,AaD,AaA,F14]) (by simp [-List.reduceReplicate,AaC,AaD,AaA,F14]) (by simp) ?_;rintro (_|n3) ⟨v21,v22⟩ hF K641 hK641
   ·try dsimp only at hF
    rw [AaR.L3] at hF; cases hF
   try dsimp only at hF
   rw [AaR.L3] at hF;refine AW.seq fun K643 hK643=>?_;refine SQ [] [none,none] fun _ _ g r=>?_;try simp [-List.reduceReplicate,AaC,AaD,AaA,F14]
   and_intros <;> first | exact GK g | apply r | omega | (simp [-List.reduceReplicate,AaC,AaD,AaA,maxLen,F14] <;> omega)
   refine WK [(0,Lw v0),(2,Lw v2),(7,AV.lst false true (List.map (AV.int .u32) v12)),(12,AV.slc 0 0 1 v22.length false),(13,Iz v21),(125,AV.bool (decide (v21<64)))] [(0,.grow (List.map (AV.int .u32) v22))] 1 (by simp [-List.reduceReplicate,AaC,AaD,AaA,F14]) (by simp [-List.reduceReplicate,AaC,AaD,AaA,F14]) ?_;by_cases h54 : v21<64
   ·replace hF:=AaN h54 hF;have h54_:=h54;try simp [-List.reduceReplicate] at h54_
    have F15:=A3 F14 h54 h54_;refine CT (by simp [-List.reduceReplicate,AaC,AaD,AaA,F15] <;> omega) ?_;refine AW.skip ?_;refine hK643 _ _ _ ?_;refine WK [(0,Lw v0),(2,Lw v2),(7,AV.lst false true (List.map (AV.int .u32) v12)),(12,AV.slc 0 0 1 v22.length false),(13,Iz v21)] [(0,.grow (List.map (AV.int .u32) v22))] 1 (by simp [-List.reduceReplicate,AaC,AaD,AaA,F15]) (by simp [-List.reduceReplicate,AaC,AaD,AaA,F15]) ?_;refine AW.frz 0 (o := .grow (List.map (AV.int .u32) v22)) (by simp [-List.reduceReplicate,AaC,AaD,AaA,F15]) rfl [(12,Lw v22)] [] ⟨(.l (by simp) (by simp) (by simp) (by simp)),trivial⟩ trivial ?_;refine WK [(0,Lw v0),(2,Lw v2),(7,AV.lst false true (List.map (AV.int .u32) v12)),(12,Lw v22),(13,Iz v21)] [] 1 (by simp [-List.reduceReplicate,AaC,AaD,AaA,F15]) (by simp [-List.reduceReplicate,AaC,AaD,AaA,F15]) ?_;refine AW.seq fun K651 hK651=>?_;refine AW.block ?_;refine SQ [] [none,none,none,none,none,none,none,none,none,none,none,none,none,none,none] fun _ _ g r=>?_;obtain ⟨v23,h55,h56,h57,hF⟩:=AaM hF;have h57_:=Aaf h57;try simp [-List.reduceReplicate] at h57_
    have h56_:=h56;try simp [-List.reduceReplicate] at h56_
    have F16:=A6 F15 h55 h56 h57 h57_ h56_;try simp [-List.reduceReplicate,AaC,AaD,AaA,F16]
    and_intros
    try any_goals first | omega | (simp [-List.reduceReplicate,AaC,AaD,AaA,maxLen,F16] <;> omega)
    obtain ⟨v24,h58,hF⟩:=AaH hF;refine AC (Abc k _ _ _ h58) (.cons (.same (by simp [-List.reduceReplicate,AaC,AaD,AaA,F16])) (.cons (.same (by simp [-List.reduceReplicate,AaC,AaD,AaA,F16])) .nil)) ?_;try simp [-List.reduceReplicate,AaC,AaD,AaA,F16]
    and_intros
    try any_goals first | omega | (simp [-List.reduceReplicate,AaC,AaD,AaA,maxLen,F16] <;> omega)
    obtain ⟨v25,h59,hF⟩:=AaH hF;refine AC (Abc k _ _ _ h59) (.cons (.same (by simp [-List.reduceReplicate,AaC,AaD,AaA,F16])) (.cons (.same (by simp [-List.reduceReplicate,AaC,AaD,AaA,F16])) .nil)) ?_;try simp [-List.reduceReplicate,AaC,AaD,AaA,F16]
    and_intros
    try any_goals first | omega | (simp [-List.reduceReplicate,AaC,AaD,AaA,maxLen,F16] <;> omega)
    obtain ⟨v26,h60,hF⟩:=AaH hF;refine AC (Abc k _ _ _ h60) (.cons (.same (by simp [-List.reduceReplicate,AaC,AaD,AaA,F16])) (.cons (.same (by simp [-List.reduceReplicate,AaC,AaD,AaA,F16])) .nil)) ?_;try simp [-List.reduceReplicate,AaC,AaD,AaA,F16]
    and_intros <;> first | exact GK g | apply r | omega | (simp [-List.reduceReplicate,AaC,AaD,AaA,maxLen,F16] <;> omega)
    refine WK [(0,Lw v0),(2,Lw v2),(7,AV.lst false true (List.map (AV.int .u32) v12)),(12,Lw v22),(13,Iz v21),(14,AV.int .u32 (AaF .xor .u32 (AaF .xor .u32 v24 v25) v26))] [] 1 (by simp [-List.reduceReplicate,AaC,AaD,AaA,F16]) (by simp [-List.reduceReplicate,AaC,AaD,AaA,F16]) ?_;refine SQ [] [none,none,none,none,none,none,none,none,none,none,none,none,none,none,none,none,none] fun _ _ g r=>?_;obtain ⟨v27,h61,h62,h63,hF⟩:=AaM hF;have h63_:=Aaf h63;try simp [-List.reduceReplicate] at h63_
    have h62_:=h62;try simp [-List.reduceReplicate] at h62_
    obtain ⟨v28,h64,h65,h66,hF⟩:=AaM hF;have h66_:=Aaf h66;try simp [-List.reduceReplicate] at h66_
    have h65_:=h65;try simp [-List.reduceReplicate] at h65_
    have F17:=A9 F16 h61 h62 h63 h63_ h62_ h64 h65 (A3 h66 h66_ h65_);try simp [-List.reduceReplicate,AaC,AaD,AaA,F17]
    and_intros <;> first | exact GK g | apply r | omega | (simp [-List.reduceReplicate,AaC,AaD,AaA,maxLen,F17] <;> omega)
    refine WK [(0,Lw v0),(2,Lw v2),(7,AV.lst false true (List.map (AV.int .u32) v12)),(12,Lw v22),(13,Iz v21),(14,AV.int .u32 (AaF .xor .u32 (AaF .xor .u32 v24 v25) v26)),(15,AV.int .u32 (AaF .xor .u32 (AaF .and .u32 v23 v27) (AaF .and .u32 (AaF .xor .u32 (IntKind.max .u32) v23) v28)))] [] 1 (by simp [-List.reduceReplicate,AaC,AaD,AaA,F17]) (by simp [-List.reduceReplicate,AaC,AaD,AaA,F17]) ?_;refine SQ [] [none,none,none,none,none,none,none,none,none,none,none,none,none,none,none,none,none,none] fun _ _ g r=>?_;obtain ⟨v29,h67,h68,h69,hF⟩:=AaM hF;have h69_:=Aaf h69;try simp [-List.reduceReplicate] at h69_
    have h68_:=h68;try simp [-List.reduceReplicate] at h68_
    obtain ⟨v30,h70,h71,h72,hF⟩:=AaM hF;have h72_:=Aaf h72;try simp [-List.reduceReplicate] at h72_
    have h71_:=h71;try simp [-List.reduceReplicate] at h71_
    obtain ⟨v31,h73,h74,h75,hF⟩:=AaM hF;have h75_:=Aaf h75;try simp [-List.reduceReplicate] at h75_
    have h74_:=h74;try simp [-List.reduceReplicate] at h74_
    have F18:=A9 F17 h67 h68 h69 h69_ h68_ h70 h71 (A8 h72 h72_ h71_ h73 h74 h75 h75_ h74_);try simp [-List.reduceReplicate,AaC,AaD,AaA,F18]
    and_intros <;> first | exact GK g | apply r | omega | (simp [-List.reduceReplicate,AaC,AaD,AaA,maxLen,F18] <;> omega)
    refine WK [(0,Lw v0),(2,Lw v2),(7,AV.lst false true (List.map (AV.int .u32) v12)),(12,Lw v22),(13,Iz v21),(16,AV.int .u32 (IntKind.wrap .u32 (IntKind.wrap .u32 (IntKind.wrap .u32 (IntKind.wrap .u32 (v29+AaF .xor .u32 (AaF .xor .u32 v24 v25) v26)+AaF .xor .u32 (AaF .and .u32 v23 v27) (AaF .and .u32 (AaF .xor .u32 (IntKind.max .u32) v23) v28))+v30)+v31)))] [] 1 (by simp [-List.reduceReplicate,AaC,AaD,AaA,F18]) (by simp [-List.reduceReplicate,AaC,AaD,AaA,F18]) ?_;refine SQ [] [none,none,none,none,none,none,none,none,none,none,none,none,none,none,none] fun _ _ g r=>?_;obtain ⟨v32,h76,h77,h78,hF⟩:=AaM hF;have h78_:=Aaf h78;try simp [-List.reduceReplicate] at h78_
    have h77_:=h77;try simp [-List.reduceReplicate] at h77_
    have h78z:=Afv h78;have F19:=A7 F18 h76 h77 h78 h78_ h77_ h78z;try simp [-List.reduceReplicate,AaC,AaD,AaA,F19]
    and_intros
    try any_goals first | omega | (simp [-List.reduceReplicate,AaC,AaD,AaA,maxLen,F19] <;> omega)
    obtain ⟨v33,h79,hF⟩:=AaH hF;refine AC (Abc k _ _ _ h79) (.cons (.same (by simp [-List.reduceReplicate,AaC,AaD,AaA,F19])) (.cons (.same (by simp [-List.reduceReplicate,AaC,AaD,AaA,F19])) .nil)) ?_;try simp [-List.reduceReplicate,AaC,AaD,AaA,F19]
    and_intros
    try any_goals first | omega | (simp [-List.reduceReplicate,AaC,AaD,AaA,maxLen,F19] <;> omega)
    obtain ⟨v34,h80,hF⟩:=AaH hF;refine AC (Abc k _ _ _ h80) (.cons (.same (by simp [-List.reduceReplicate,AaC,AaD,AaA,F19])) (.cons (.same (by simp [-List.reduceReplicate,AaC,AaD,AaA,F19])) .nil)) ?_;try simp [-List.reduceReplicate,AaC,AaD,AaA,F19]
    and_intros
    try any_goals first | omega | (simp [-List.reduceReplicate,AaC,AaD,AaA,maxLen,F19] <;> omega)
    obtain ⟨v35,h81,hF⟩:=AaH hF;refine AC (Abc k _ _ _ h81) (.cons (.same (by simp [-List.reduceReplicate,AaC,AaD,AaA,F19])) (.cons (.same (by simp [-List.reduceReplicate,AaC,AaD,AaA,F19])) .nil)) ?_;try simp [-List.reduceReplicate,AaC,AaD,AaA,F19]
    and_intros <;> first | exact GK g | apply r | omega | (simp [-List.reduceReplicate,AaC,AaD,AaA,maxLen,F19] <;> omega)
    refine WK [(0,Lw v0),(2,Lw v2),(7,AV.lst false true (List.map (AV.int .u32) v12)),(12,Lw v22),(13,Iz v21),(14,AV.int .u32 (AaF .xor .u32 (AaF .xor .u32 v33 v34) v35)),(16,AV.int .u32 (IntKind.wrap .u32 (IntKind.wrap .u32 (IntKind.wrap .u32 (IntKind.wrap .u32 (v29+AaF .xor .u32 (AaF .xor .u32 v24 v25) v26)+AaF .xor .u32 (AaF .and .u32 v23 v27) (AaF .and .u32 (AaF .xor .u32 (IntKind.max .u32) v23) v28))+v30)+v31)))] [] 1 (by simp [-List.reduceReplicate,AaC,AaD,AaA,F19]) (by simp [-List.reduceReplicate,AaC,AaD,AaA,F19]) ?_;refine SQ [] [none,none,none,none,none,none,none,none,none,none,none,none,none,none,none,none,none,none,none,none,none,none,none,none] fun _ _ g r=>?_;obtain ⟨v36,h82,h83,h84,hF⟩:=AaM hF;have h84_:=Aaf h84;try simp [-List.reduceReplicate] at h84_
    have h83_:=h83;try simp [-List.reduceReplicate] at h83_
    obtain ⟨v37,h85,h86,h87,hF⟩:=AaM hF;have h87_:=Aaf h87;try simp [-List.reduceReplicate] at h87_
    have h86_:=h86;try simp [-List.reduceReplicate] at h86_
    have F20:=A9 F19 h82 h83 h84 h84_ h83_ h85 h86 (A3 h87 h87_ h86_);try simp [-List.reduceReplicate,AaC,AaD,AaA,F20]
    and_intros <;> first | exact GK g | apply r | omega | (simp [-List.reduceReplicate,AaC,AaD,AaA,maxLen,F20] <;> omega)
    refine WK [(0,Lw v0),(2,Lw v2),(7,AV.lst false true (List.map (AV.int .u32) v12)),(12,Lw v22),(13,Iz v21),(14,AV.int .u32 (AaF .xor .u32 (AaF .xor .u32 v33 v34) v35)),(16,AV.int .u32 (IntKind.wrap .u32 (IntKind.wrap .u32 (IntKind.wrap .u32 (IntKind.wrap .u32 (v29+AaF .xor .u32 (AaF .xor .u32 v24 v25) v26)+AaF .xor .u32 (AaF .and .u32 v23 v27) (AaF .and .u32 (AaF .xor .u32 (IntKind.max .u32) v23) v28))+v30)+v31))),(17,AV.int .u32 (AaF .xor .u32 (AaF .xor .u32 (AaF .and .u32 v32 v36) (AaF .and .u32 v32 v37)) (AaF .and .u32 v36 v37)))] [] 1 (by simp [-List.reduceReplicate,AaC,AaD,AaA,F20]) (by simp [-List.reduceReplicate,AaC,AaD,AaA,F20]) ?_;refine RG [240] [none,none,none,none,none,none,none,none,none,none,none,none,none,none,none,none,none,none,none,none,none,none,none,none,none,none,none,none,none,none] fun _ _ g r=>?_;obtain ⟨v38,h88,h89,h90,hF⟩:=AaM hF;have h90_:=Aaf h90;try simp [-List.reduceReplicate] at h90_
    have h89_:=h89;try simp [-List.reduceReplicate] at h89_
    have F21:=A6 F20 h88 h89 h90 h90_ h89_;try simp [-List.reduceReplicate,AaC,AaD,AaA,F21]
    and_intros <;> first | exact GK g | apply r | omega | (simp [-List.reduceReplicate,AaC,AaD,AaA,maxLen,F21] <;> omega)
    refine hK651 _ _ _ ?_;refine WK [(0,Lw v0),(2,Lw v2),(7,AV.lst false true (List.map (AV.int .u32) v12)),(12,AV.slc 1 0 1 (([IntKind.wrap .u32 (IntKind.wrap .u32 (IntKind.wrap .u32 (IntKind.wrap .u32 (IntKind.wrap .u32 (IntKind.wrap .u32 (v29+AaF .xor .u32 (AaF .xor .u32 v24 v25) v26)+AaF .xor .u32 (AaF .and .u32 v23 v27) (AaF .and .u32 (AaF .xor .u32 (IntKind.max .u32) v23) v28))+v30)+v31)+AaF .xor .u32 (AaF .xor .u32 v33 v34) v35)+AaF .xor .u32 (AaF .xor .u32 (AaF .and .u32 v32 v36) (AaF .and .u32 v32 v37)) (AaF .and .u32 v36 v37)),v32,v36,v37,IntKind.wrap .u32 (v38+IntKind.wrap .u32 (IntKind.wrap .u32 (IntKind.wrap .u32 (IntKind.wrap .u32 (v29+AaF .xor .u32 (AaF .xor .u32 v24 v25) v26)+AaF .xor .u32 (AaF .and .u32 v23 v27) (AaF .and .u32 (AaF .xor .u32 (IntKind.max .u32) v23) v28))+v30)+v31)),v23,v27,v28] : List Int).length) true),(13,Iz v21)] [(1,.cells (List.map (AV.int .u32) ([IntKind.wrap .u32 (IntKind.wrap .u32 (IntKind.wrap .u32 (IntKind.wrap .u32 (IntKind.wrap .u32 (IntKind.wrap .u32 (v29+AaF .xor .u32 (AaF .xor .u32 v24 v25) v26)+AaF .xor .u32 (AaF .and .u32 v23 v27) (AaF .and .u32 (AaF .xor .u32 (IntKind.max .u32) v23) v28))+v30)+v31)+AaF .xor .u32 (AaF .xor .u32 v33 v34) v35)+AaF .xor .u32 (AaF .xor .u32 (AaF .and .u32 v32 v36) (AaF .and .u32 v32 v37)) (AaF .and .u32 v36 v37)),v32,v36,v37,IntKind.wrap .u32 (v38+IntKind.wrap .u32 (IntKind.wrap .u32 (IntKind.wrap .u32 (IntKind.wrap .u32 (v29+AaF .xor .u32 (AaF .xor .u32 v24 v25) v26)+AaF .xor .u32 (AaF .and .u32 v23 v27) (AaF .and .u32 (AaF .xor .u32 (IntKind.max .u32) v23) v28))+v30)+v31)),v23,v27,v28] : List Int)))] 2 (by simp [-List.reduceReplicate,AaC,AaD,AaA,F21]) (by simp [-List.reduceReplicate,AaC,AaD,AaA,F21]) ?_;refine RG [] [none,none,none] fun _ _ g r=>?_;try simp [-List.reduceReplicate,AaC,AaD,AaA,F21]
    and_intros <;> first | exact GK g | apply r | omega | (simp [-List.reduceReplicate,AaC,AaD,AaA,maxLen,F21] <;> omega)
    refine hK641 _ _ _ ?_;refine RN h0 [(0,1)] [(0,Lw v0),(2,Lw v2),(7,AV.lst false true (List.map (AV.int .u32) v12)),(12,AV.slc 0 0 1 (([IntKind.wrap .u32 (IntKind.wrap .u32 (IntKind.wrap .u32 (IntKind.wrap .u32 (IntKind.wrap .u32 (IntKind.wrap .u32 (v29+AaF .xor .u32 (AaF .xor .u32 v24 v25) v26)+AaF .xor .u32 (AaF .and .u32 v23 v27) (AaF .and .u32 (AaF .xor .u32 (IntKind.max .u32) v23) v28))+v30)+v31)+AaF .xor .u32 (AaF .xor .u32 v33 v34) v35)+AaF .xor .u32 (AaF .xor .u32 (AaF .and .u32 v32 v36) (AaF .and .u32 v32 v37)) (AaF .and .u32 v36 v37)),v32,v36,v37,IntKind.wrap .u32 (v38+IntKind.wrap .u32 (IntKind.wrap .u32 (IntKind.wrap .u32 (IntKind.wrap .u32 (v29+AaF .xor .u32 (AaF .xor .u32 v24 v25) v26)+AaF .xor .u32 (AaF .and .u32 v23 v27) (AaF .and .u32 (AaF .xor .u32 (IntKind.max .u32) v23) v28))+v30)+v31)),v23,v27,v28] : List Int).length) true),(13,Iz (IntKind.wrap .i64 (v21+1)))] [(0,.cells (List.map (AV.int .u32) ([IntKind.wrap .u32 (IntKind.wrap .u32 (IntKind.wrap .u32 (IntKind.wrap .u32 (IntKind.wrap .u32 (IntKind.wrap .u32 (v29+AaF .xor .u32 (AaF .xor .u32 v24 v25) v26)+AaF .xor .u32 (AaF .and .u32 v23 v27) (AaF .and .u32 (AaF .xor .u32 (IntKind.max .u32) v23) v28))+v30)+v31)+AaF .xor .u32 (AaF .xor .u32 v33 v34) v35)+AaF .xor .u32 (AaF .xor .u32 (AaF .and .u32 v32 v36) (AaF .and .u32 v32 v37)) (AaF .and .u32 v36 v37)),v32,v36,v37,IntKind.wrap .u32 (v38+IntKind.wrap .u32 (IntKind.wrap .u32 (IntKind.wrap .u32 (IntKind.wrap .u32 (v29+AaF .xor .u32 (AaF .xor .u32 v24 v25) v26)+AaF .xor .u32 (AaF .and .u32 v23 v27) (AaF .and .u32 (AaF .xor .u32 (IntKind.max .u32) v23) v28))+v30)+v31)),v23,v27,v28] : List Int)))] 1 (by simp [-List.reduceReplicate,AaC,AaD,AaA,F21]) (by simp [-List.reduceReplicate,AaC,AaD,AaA,F21]) ?_;refine Can.flg [(12,AV.slc 0 0 1 (([IntKind.wrap .u32 (IntKind.wrap .u32 (IntKind.wrap .u32 (IntKind.wrap .u32 (IntKind.wrap .u32 (IntKind.wrap .u32 (v29+AaF .xor .u32 (AaF .xor .u32 v24 v25) v26)+AaF .xor .u32 (AaF .and .u32 v23 v27) (AaF .and .u32 (AaF .xor .u32 (IntKind.max .u32) v23) v28))+v30)+v31)+AaF .xor .u32 (AaF .xor .u32 v33 v34) v35)+AaF .xor .u32 (AaF .xor .u32 (AaF .and .u32 v32 v36) (AaF .and .u32 v32 v37)) (AaF .and .u32 v36 v37)),v32,v36,v37,IntKind.wrap .u32 (v38+IntKind.wrap .u32 (IntKind.wrap .u32 (IntKind.wrap .u32 (IntKind.wrap .u32 (v29+AaF .xor .u32 (AaF .xor .u32 v24 v25) v26)+AaF .xor .u32 (AaF .and .u32 v23 v27) (AaF .and .u32 (AaF .xor .u32 (IntKind.max .u32) v23) v28))+v30)+v31)),v23,v27,v28] : List Int).length) false)] [(0,.grow (List.map (AV.int .u32) ([IntKind.wrap .u32 (IntKind.wrap .u32 (IntKind.wrap .u32 (IntKind.wrap .u32 (IntKind.wrap .u32 (IntKind.wrap .u32 (v29+AaF .xor .u32 (AaF .xor .u32 v24 v25) v26)+AaF .xor .u32 (AaF .and .u32 v23 v27) (AaF .and .u32 (AaF .xor .u32 (IntKind.max .u32) v23) v28))+v30)+v31)+AaF .xor .u32 (AaF .xor .u32 v33 v34) v35)+AaF .xor .u32 (AaF .xor .u32 (AaF .and .u32 v32 v36) (AaF .and .u32 v32 v37)) (AaF .and .u32 v36 v37)),v32,v36,v37,IntKind.wrap .u32 (v38+IntKind.wrap .u32 (IntKind.wrap .u32 (IntKind.wrap .u32 (IntKind.wrap .u32 (v29+AaF .xor .u32 (AaF .xor .u32 v24 v25) v26)+AaF .xor .u32 (AaF .and .u32 v23 v27) (AaF .and .u32 (AaF .xor .u32 (IntKind.max .u32) v23) v28))+v30)+v31)),v23,v27,v28] : List Int)))] ⟨.slc,trivial⟩ ⟨⟨Aaj.cells (List.map (AV.int .u32) ([IntKind.wrap .u32 (IntKind.wrap .u32 (IntKind.wrap .u32 (IntKind.wrap .u32 (IntKind.wrap .u32 (IntKind.wrap .u32 (v29+AaF .xor .u32 (AaF .xor .u32 v24 v25) v26)+AaF .xor .u32 (AaF .and .u32 v23 v27) (AaF .and .u32 (AaF .xor .u32 (IntKind.max .u32) v23) v28))+v30)+v31)+AaF .xor .u32 (AaF .xor .u32 v33 v34) v35)+AaF .xor .u32 (AaF .xor .u32 (AaF .and .u32 v32 v36) (AaF .and .u32 v32 v37)) (AaF .and .u32 v36 v37)),v32,v36,v37,IntKind.wrap .u32 (v38+IntKind.wrap .u32 (IntKind.wrap .u32 (IntKind.wrap .u32 (IntKind.wrap .u32 (v29+AaF .xor .u32 (AaF .xor .u32 v24 v25) v26)+AaF .xor .u32 (AaF .and .u32 v23 v27) (AaF .and .u32 (AaF .xor .u32 (IntKind.max .u32) v23) v28))+v30)+v31)),v23,v27,v28] : List Int)),by simp [-List.reduceReplicate,AaC,AaD,AaA,F21],(.gr (by simp [-List.reduceReplicate,AaC,AaD,AaA,F21]))⟩,trivial⟩ (by simp) ?_;exact NX (k':=n3) ((IntKind.wrap .i64 (v21+1),([IntKind.wrap .u32 (IntKind.wrap .u32 (IntKind.wrap .u32 (IntKind.wrap .u32 (IntKind.wrap .u32 (IntKind.wrap .u32 (v29+AaF .xor .u32 (AaF .xor .u32 v24 v25) v26)+AaF .xor .u32 (AaF .and .u32 v23 v27) (AaF .and .u32 (AaF .xor .u32 (IntKind.max .u32) v23) v28))+v30)+v31)+AaF .xor .u32 (AaF .xor .u32 v33 v34) v35)+AaF .xor .u32 (AaF .xor .u32 (AaF .and .u32 v32 v36) (AaF .and .u32 v32 v37)) (AaF .and .u32 v36 v37)),v32,v36,v37,IntKind.wrap .u32 (v38+IntKind.wrap .u32 (IntKind.wrap .u32 (IntKind.wrap .u32 (IntKind.wrap .u32 (v29+AaF .xor .u32 (AaF .xor .u32 v24 v25) v26)+AaF .xor .u32 (AaF .and .u32 v23 v27) (AaF .and .u32 (AaF .xor .u32 (IntKind.max .u32) v23) v28))+v30)+v31)),v23,v27,v28] : List Int))) hF (by simp [-List.reduceReplicate,AaC,AaD,AaA,F21]) (by simp [-List.reduceReplicate,AaC,AaD,AaA,F21])
   ·replace hF:=AaO h54 hF;have h54_:=h54;try simp [-List.reduceReplicate] at h54_
    have F22:=A3 F14 h54 h54_;refine CF (by simp [-List.reduceReplicate,AaC,AaD,AaA,F22] <;> omega) ?_;refine AW.exit ?_;try simp [-List.reduceReplicate]
    refine hK588 _ _ _ ?_;refine AW.seq fun K689 hK689=>?_;refine SQ [] [none] fun _ _ g r=>?_;try simp [-List.reduceReplicate,AaC,AaD,AaA,F22]
    and_intros <;> first | exact GK g | apply r | omega | (simp [-List.reduceReplicate,AaC,AaD,AaA,maxLen,F22] <;> omega)
    refine WK [(0,Lw v0),(12,AV.slc 0 0 1 v22.length false),(18,Iz 0)] [(0,.grow (List.map (AV.int .u32) v22))] 1 (by simp [-List.reduceReplicate,AaC,AaD,AaA,F22]) (by simp [-List.reduceReplicate,AaC,AaD,AaA,F22]) ?_;refine AW.block ?_;refine AW.loopF (α:=(Int×(List Int))) (fun n (v39,v40)=>AaR.L4 k v0 n v39 v40=some v3) (fun (v39,v40)=>[(0,Lw v0),(12,AV.slc 0 0 1 v40.length false),(18,Iz v39)]) (fun (v39,v40)=>[(0,.grow (List.map (AV.int .u32) v40))]) 1 k ((0,v22)) hF (by simp [-List.reduceReplicate,AaC,AaD,AaA,F22]) (by simp [-List.reduceReplicate,AaC,AaD,AaA,F22]) (by simp) ?_;rintro (_|n4) ⟨v39,v40⟩ hF K712 hK712
    ·try dsimp only at hF
     rw [AaR.L4] at hF; cases hF
    try dsimp only at hF
    rw [AaR.L4] at hF;refine AW.seq fun K714 hK714=>?_;refine SQ [] [none,none] fun _ _ g r=>?_;try simp [-List.reduceReplicate,AaC,AaD,AaA,F22]
    and_intros <;> first | exact GK g | apply r | omega | (simp [-List.reduceReplicate,AaC,AaD,AaA,maxLen,F22] <;> omega)
    refine WK [(0,Lw v0),(12,AV.slc 0 0 1 v40.length false),(18,Iz v39),(242,AV.bool (decide (v39<8)))] [(0,.grow (List.map (AV.int .u32) v40))] 1 (by simp [-List.reduceReplicate,AaC,AaD,AaA,F22]) (by simp [-List.reduceReplicate,AaC,AaD,AaA,F22]) ?_;by_cases h91 : v39<8
    ·replace hF:=AaN h91 hF;have h91_:=h91;try simp [-List.reduceReplicate] at h91_
     have F23:=A3 F22 h91 h91_;refine CT (by simp [-List.reduceReplicate,AaC,AaD,AaA,F23] <;> omega) ?_;refine AW.skip ?_;refine hK714 _ _ _ ?_;refine AW.seq fun K717 hK717=>?_;refine AW.block ?_;refine RG [] [none,none,none,none,none,none,none,none,none,none,none] fun _ _ g r=>?_;obtain ⟨⟨h92,h93⟩,hF⟩:=AaJ hF;have h93_:=Aal h93;obtain ⟨v41,h94,h95,h96,hF⟩:=AaM hF;have h96_:=Aaf h96;try simp [-List.reduceReplicate] at h96_
     have h95_:=h95;try simp [-List.reduceReplicate] at h95_
     obtain ⟨v42,h97,h98,h99,hF⟩:=AaM hF;have h99_:=Aaf h99;try simp [-List.reduceReplicate] at h99_
     have h98_:=h98;try simp [-List.reduceReplicate] at h98_
     obtain ⟨⟨h100,h101⟩,hF⟩:=AaJ hF;have h101_:=Aal h101;have F24:=A9 F23 h92 h93 h93_ h94 h95 h96 h96_ (A9 h95_ h97 h98 h99 h99_ h98_ h100 h101 h101_);try simp [-List.reduceReplicate,AaC,AaD,AaA,F24]
     and_intros <;> first | exact GK g | apply r | omega | (simp [-List.reduceReplicate,AaC,AaD,AaA,maxLen,F24] <;> omega)
     refine hK717 _ _ _ ?_;refine WK [(0,Lw v0),(12,AV.slc 0 0 1 ((v40.set (v39).toNat (IntKind.wrap .u32 (v41+v42))).length) false),(18,Iz v39)] [(0,.grow (List.map (AV.int .u32) (v40.set (v39).toNat (IntKind.wrap .u32 (v41+v42)))))] 1 (by simp [-List.reduceReplicate,AaC,AaD,AaA,F24]) (by simp [-List.reduceReplicate,AaC,AaD,AaA,F24]) ?_;refine RG [] [none,none,none] fun _ _ g r=>?_;try simp [-List.reduceReplicate,AaC,AaD,AaA,F24]
     and_intros <;> first | exact GK g | apply r | omega | (simp [-List.reduceReplicate,AaC,AaD,AaA,maxLen,F24] <;> omega)
     refine hK712 _ _ _ ?_;exact NX (k':=n4) ((IntKind.wrap .i64 (v39+1),v40.set (v39).toNat (IntKind.wrap .u32 (v41+v42)))) hF (by simp [-List.reduceReplicate,AaC,AaD,AaA,F24]) (by simp [-List.reduceReplicate,AaC,AaD,AaA,F24])
    ·replace hF:=AaO h91 hF;have h91_:=h91;try simp [-List.reduceReplicate] at h91_
     have F25:=A3 F22 h91 h91_;refine CF (by simp [-List.reduceReplicate,AaC,AaD,AaA,F25] <;> omega) ?_;refine AW.exit ?_;try simp [-List.reduceReplicate]
     refine hK689 _ _ _ ?_;refine SQ [] [none,none] fun _ _ g r=>?_;try simp [-List.reduceReplicate,AaC,AaD,AaA,F25]
     and_intros <;> first | exact GK g | apply r | omega | (simp [-List.reduceReplicate,AaC,AaD,AaA,maxLen,F25] <;> omega)
     refine WK [(6,AV.slc 0 0 1 v40.length false)] [(0,.grow (List.map (AV.int .u32) v40))] 1 (by simp [-List.reduceReplicate,AaC,AaD,AaA,F25]) (by simp [-List.reduceReplicate,AaC,AaD,AaA,F25]) ?_;simp only [Option.some.injEq] at hF;subst hF;refine AW.ret (hQ _ _ _ ?_ (AaE ?_)).1
     ·simp [Try.f80,F25]
     ·simp [F25]
theorem Ah0 (k : Nat) (v0 : (List Int)) (v1 : ByteArray) (hF : Aac k v0=some v1) :
 AbA Try.prog 46 [AV.lst false false (List.map (AV.int .u8) v0)] [] (AV.str v1) []:=by
 unfold Aac at hF;refine EN Try.func46 ?_;intro c0 w0 Q h0 hQ
 refine WK [(0,Lb v0)] [] 0 (by simp) (by simp) ?_;refine SW trivial [] [none] [] [] [] [] 0 ?_;refine SW trivial [] [none,none] [] [(3,AV.lst false true (List.map (AV.int .u32) ([1779033703,3144134277,1013904242,2773480762,1359893119,2600822924,528734635,1541459225] : List Int)))] [] [] 0 ?_;refine SQ [13] [none,none,none,none,none] fun _ _ g r=>?_;obtain ⟨h1,hF⟩:=AaJ hF;have h1_:=h1;try simp at h1_
 obtain ⟨h2,hF⟩:=AaJ hF;have h2_:=h2;try simp at h2_
 try simp [h1,h2]
 and_intros <;> first | exact GK g | apply r | omega | (simp [h1,h2,maxLen] <;> omega)
 refine WK [(0,Lb v0),(3,AV.lst false true (List.map (AV.int .u32) ([1779033703,3144134277,1013904242,2773480762,1359893119,2600822924,528734635,1541459225] : List Int))),(4,AV.slc 1 0 1 ((v0++([128] : List Int)).length) false)] [(1,.grow (List.map (AV.int .u8) (v0++([128] : List Int))))] 2 (by simp [h1,h2] <;> omega) (by simp [h1,h2]) ?_;refine AW.seq fun K246 hK246=>?_;refine AW.block ?_;refine RM h0 [(0,1)] [(0,Lb v0),(3,AV.lst false true (List.map (AV.int .u32) ([1779033703,3144134277,1013904242,2773480762,1359893119,2600822924,528734635,1541459225] : List Int))),(4,AV.slc 0 0 1 ((v0++([128] : List Int)).length) false)] [(0,.grow (List.map (AV.int .u8) (v0++([128] : List Int))))] 1 (by simp [h1,h2]) (by simp [h1,h2]) ?_;refine AW.loopF (α:=(List Int)) (fun n v2=>Aac.L1 k v0 n v2=some v1) (fun v2=>[(0,Lb v0),(3,AV.lst false true (List.map (AV.int .u32) ([1779033703,3144134277,1013904242,2773480762,1359893119,2600822924,528734635,1541459225] : List Int))),(4,AV.slc 0 0 1 v2.length false)]) (fun v2=>[(0,.grow (List.map (AV.int .u8) v2))]) 1 k (v0++([128] : List Int)) hF (by simp [h1,h2]) (by simp [h1,h2]) (by simp) ?_;rintro (_|n1) v2 hF K259 hK259
 ·try dsimp only at hF
  rw [Aac.L1] at hF; cases hF
 try dsimp only at hF
 rw [Aac.L1] at hF;refine AW.seq fun K261 hK261=>?_;refine SW (A2 h1 h2) [] [none,none,none,none] [] [(19,AV.bool ((Int.tmod (v2.length : Int) 64) !=56))] [] [] 1 ?_;by_cases h3 : (Int.tmod (v2.length : Int) 64)≠56
 ·replace hF:=AaN h3 hF;have h3_:=AbR h3;have h3__:=AbW h3;refine CT (by simp [h1,h2,h3,h3_,h3__] <;> omega) ?_;refine AW.skip ?_;refine hK261 _ _ _ ?_;refine AW.block ?_;refine RG [] [none,none,none,none] fun _ _ g r=>?_;obtain ⟨h4,hF⟩:=AaJ hF;have h4_:=h4;try simp at h4_
  have F1:=A6 h1 h2 h3 h3_ h3__ h4;try simp [F1]
  and_intros <;> first | exact GK g | apply r | omega | (simp [maxLen,F1] <;> omega)
  refine hK259 _ _ _ ?_;refine RN h0 [(0,1)] [(0,Lb v0),(3,AV.lst false true (List.map (AV.int .u32) ([1779033703,3144134277,1013904242,2773480762,1359893119,2600822924,528734635,1541459225] : List Int))),(4,AV.slc 0 0 1 ((v2++([0] : List Int)).length) false)] [(0,.grow (List.map (AV.int .u8) (v2++([0] : List Int))))] 1 (by simp [F1] <;> omega) (by simp [F1]) ?_;exact NX (k':=n1) (v2++([0] : List Int)) hF (by simp [F1]) (by simp [F1])
 ·replace hF:=AaO h3 hF;have h3q : (Int.tmod (v2.length : Int) 64)=56:=Classical.not_not.1 h3;have h3_:=AbY h3q;have h3__:=AbX h3q;have F2:=A5 h1 h2 h3_ h3__ h3q;refine CF (by simp [F2] <;> omega) ?_;refine AW.exit ?_;try simp
  refine hK246 _ _ _ ?_;refine SW F2 [] [none,none,none,none,none] [0] [(5,AV.int .u64 (IntKind.wrap .u64 (IntKind.wrap .u64 (v0.length : Int)*8)))] [] [] 1 ?_;refine AW.seq fun K295 hK295=>?_;refine SW F2 [] [none] [] [(6,Iz 7)] [] [] 1 ?_;refine AW.block ?_;refine AW.loopF (α:=(Int×(List Int))) (fun n (v3,v4)=>Aac.L2 k v0 n v3 v4=some v1) (fun (v3,v4)=>[(3,AV.lst false true (List.map (AV.int .u32) ([1779033703,3144134277,1013904242,2773480762,1359893119,2600822924,528734635,1541459225] : List Int))),(4,AV.slc 0 0 1 v4.length false),(5,AV.int .u64 (IntKind.wrap .u64 (IntKind.wrap .u64 (v0.length : Int)*8))),(6,Iz v3)]) (fun (v3,v4)=>[(0,.grow (List.map (AV.int .u8) v4))]) 1 k ((7,v2)) hF (by simp [F2]) (by simp [F2]) (by simp) ?_;rintro (_|n2) ⟨v3,v4⟩ hF K318 hK318
  ·try dsimp only at hF
   rw [Aac.L2] at hF; cases hF
  try dsimp only at hF
  rw [Aac.L2] at hF;refine AW.seq fun K320 hK320=>?_;refine SW F2 [] [none,none] [] [(28,AV.bool (decide (0≤v3)))] [] [] 1 ?_;by_cases h5 : 0≤v3
  ·replace hF:=AaN h5 hF;have h5_:=h5;try simp at h5_
   have F3:=A3 F2 h5 h5_;refine CT (by simp [F3] <;> omega) ?_;refine AW.skip ?_;refine hK320 _ _ _ ?_;refine AW.seq fun K323 hK323=>?_;refine AW.block ?_;refine RG [] [none,none,none,none,none,none,none,none,none,none] fun _ _ g r=>?_;obtain ⟨h6,hF⟩:=AaJ hF;obtain ⟨h7,hF⟩:=AaJ hF;have h7_:=h7;try simp at h7_
   have F4:=A3 F3 h6 h7;try simp [F4]
   and_intros <;> first | exact GK g | apply r | omega | (simp [maxLen,F4] <;> omega)
   refine hK323 _ _ _ ?_;refine WK [(3,AV.lst false true (List.map (AV.int .u32) ([1779033703,3144134277,1013904242,2773480762,1359893119,2600822924,528734635,1541459225] : List Int))),(4,AV.slc 1 0 1 ((v4++([IntKind.wrap .u8 (Int.fdiv (IntKind.wrap .u64 (IntKind.wrap .u64 (v0.length : Int)*8)) (2 ^ (min ((IntKind.wrap .u64 (IntKind.wrap .i64 (8*v3))).toNat) 64)))] : List Int)).length) false),(5,AV.int .u64 (IntKind.wrap .u64 (IntKind.wrap .u64 (v0.length : Int)*8))),(6,Iz v3)] [(1,.grow (List.map (AV.int .u8) (v4++([IntKind.wrap .u8 (Int.fdiv (IntKind.wrap .u64 (IntKind.wrap .u64 (v0.length : Int)*8)) (2 ^ (min ((IntKind.wrap .u64 (IntKind.wrap .i64 (8*v3))).toNat) 64)))] : List Int))))] 2 (by simp [F4] <;> omega) (by simp [F4]) ?_;refine RG [] [none,none,none] fun _ _ g r=>?_;try simp [F4]
   and_intros <;> first | exact GK g | apply r | omega | (simp [maxLen,F4] <;> omega)
   refine hK318 _ _ _ ?_;refine RN h0 [(0,1)] [(3,AV.lst false true (List.map (AV.int .u32) ([1779033703,3144134277,1013904242,2773480762,1359893119,2600822924,528734635,1541459225] : List Int))),(4,AV.slc 0 0 1 ((v4++([IntKind.wrap .u8 (Int.fdiv (IntKind.wrap .u64 (IntKind.wrap .u64 (v0.length : Int)*8)) (2 ^ (min ((IntKind.wrap .u64 (IntKind.wrap .i64 (8*v3))).toNat) 64)))] : List Int)).length) false),(5,AV.int .u64 (IntKind.wrap .u64 (IntKind.wrap .u64 (v0.length : Int)*8))),(6,Iz (IntKind.wrap .i64 (v3-1)))] [(0,.grow (List.map (AV.int .u8) (v4++([IntKind.wrap .u8 (Int.fdiv (IntKind.wrap .u64 (IntKind.wrap .u64 (v0.length : Int)*8)) (2 ^ (min ((IntKind.wrap .u64 (IntKind.wrap .i64 (8*v3))).toNat) 64)))] : List Int))))] 1 (by simp [F4] <;> omega) (by simp [F4]) ?_;exact NX (k':=n2) ((IntKind.wrap .i64 (v3-1),v4++([IntKind.wrap .u8 (Int.fdiv (IntKind.wrap .u64 (IntKind.wrap .u64 (v0.length : Int)*8)) (2 ^ (min ((IntKind.wrap .u64 (IntKind.wrap .i64 (8*v3))).toNat) 64)))] : List Int))) hF (by simp [F4]) (by simp [F4])
  ·replace hF:=AaO h5 hF;have h5_:=h5;try simp at h5_
   have F5:=A3 F2 h5 h5_;refine CF (by simp [F5] <;> omega) ?_;refine AW.exit ?_;try simp
   refine hK295 _ _ _ ?_;refine WK [(3,AV.lst false true (List.map (AV.int .u32) ([1779033703,3144134277,1013904242,2773480762,1359893119,2600822924,528734635,1541459225] : List Int))),(4,AV.slc 0 0 1 v4.length false)] [(0,.grow (List.map (AV.int .u8) v4))] 1 (by simp [F5]) (by simp [F5]) ?_;refine AW.frz 0 (o := .grow (List.map (AV.int .u8) v4)) (by simp [F5]) rfl [(4,Lb v4)] [] ⟨(.l (by simp) (by simp) (by simp) (by simp)),trivial⟩ trivial ?_;refine WK [(3,AV.lst false true (List.map (AV.int .u32) ([1779033703,3144134277,1013904242,2773480762,1359893119,2600822924,528734635,1541459225] : List Int))),(4,Lb v4)] [] 1 (by simp [F5]) (by simp [F5]) ?_;refine SR [] [none,none] fun _ _ g r=>?_;try simp [F5]
   and_intros
   try any_goals first | omega | (simp [maxLen,F5] <;> omega)
   obtain ⟨v5,h8,hF⟩:=AaH hF;refine AC (Ae5 k _ h8) .nil ?_;refine TL F5 g r [] [(7,Lw v5)] [] [] 1 ?_;refine AW.seq fun K357 hK357=>?_;refine SW F5 [] [none] [] [(8,Iz 0)] [] [] 1 ?_;refine AW.block ?_;refine RM h0 [] [(3,AV.lst false true (List.map (AV.int .u32) ([1779033703,3144134277,1013904242,2773480762,1359893119,2600822924,528734635,1541459225] : List Int))),(4,Lb v4),(7,Lw v5),(8,Iz 0)] [] 0 (by simp [F5]) (by simp [F5]) ?_;refine AW.flg [(3,Lw ([1779033703,3144134277,1013904242,2773480762,1359893119,2600822924,528734635,1541459225] : List Int))] [] ⟨(.lst (by simp)),trivial⟩ trivial (by simp) ?_;refine AW.loopF (α:=((List Int)×Int)) (fun n (v6,v7)=>Aac.L3 k v4 v5 n v6 v7=some v1) (fun (v6,v7)=>[(3,Lw v6),(4,Lb v4),(7,Lw v5),(8,Iz v7)]) (fun (v6,v7)=>[]) 0 k ((([1779033703,3144134277,1013904242,2773480762,1359893119,2600822924,528734635,1541459225] : List Int),0)) hF (by simp [F5]) (by simp [F5]) (by simp) ?_;rintro (_|n3) ⟨v6,v7⟩ hF K380 hK380
   ·try dsimp only at hF
    rw [Aac.L3] at hF; cases hF
   try dsimp only at hF
   rw [Aac.L3] at hF;refine AW.seq fun K382 hK382=>?_;refine SW F5 [] [none,none,none,none] [] [(44,AV.bool (decide (v7<(v4.length : Int))))] [] [] 0 ?_;by_cases h9 : v7<(v4.length : Int)
   ·replace hF:=AaN h9 hF;have h9_:=h9;try simp at h9_
    have F6:=A3 F5 h9 h9_;refine CT (by simp [F6] <;> omega) ?_;refine AW.skip ?_;refine hK382 _ _ _ ?_;refine AW.seq fun K385 hK385=>?_;refine AW.block ?_;refine RG [] [none,none,none,none,none,none,none,none,none] fun _ _ g r=>?_;obtain ⟨⟨h10,h11,h12⟩,hF⟩:=AaJ hF;have h10_:=h10;try simp at h10_
    have h11_:=h11;try simp at h11_
    have h12_:=h12;try simp at h12_
    have F7:=A7 F6 h10 h11 h12 h10_ h11_ h12_;try simp [F7]
    and_intros
    try any_goals first | omega | (simp [maxLen,F7] <;> omega)
    obtain ⟨v8,h13,hF⟩:=AaH hF;refine AC (Agj k _ _ _ _ h13) (.cons (.same (by simp [F7])) (.cons (.same (by simp [F7])) (.cons (.same (by simp [F7])) .nil))) ?_;try simp [F7]
    and_intros <;> first | exact GK g | apply r | omega | (simp [maxLen,F7] <;> omega)
    refine hK385 _ _ _ ?_;refine WK [(3,AV.slc 0 0 1 v8.length false),(4,Lb v4),(7,Lw v5),(8,Iz v7)] [(0,.grow (List.map (AV.int .u32) v8))] 1 (by simp [F7]) (by simp [F7]) ?_;refine AW.frz 0 (o := .grow (List.map (AV.int .u32) v8)) (by simp [F7]) rfl [(3,Lw v8)] [] ⟨(.l (by simp) (by simp) (by simp) (by simp)),trivial⟩ trivial ?_;refine WK [(3,Lw v8),(4,Lb v4),(7,Lw v5),(8,Iz v7)] [] 1 (by simp [F7]) (by simp [F7]) ?_;refine RG [] [none,none,none] fun _ _ g r=>?_;try simp [F7]
    and_intros <;> first | exact GK g | apply r | omega | (simp [maxLen,F7] <;> omega)
    refine hK380 _ _ _ ?_;refine RN h0 [] [(3,Lw v8),(4,Lb v4),(7,Lw v5),(8,Iz (IntKind.wrap .i64 (v7+64)))] [] 0 (by simp [F7]) (by simp [F7]) ?_;exact NX (k':=n3) ((v8,IntKind.wrap .i64 (v7+64))) hF (by simp [F7]) (by simp [F7])
   ·replace hF:=AaO h9 hF;have h9_:=h9;try simp at h9_
    have F8:=A3 F5 h9 h9_;refine CF (by simp [F8] <;> omega) ?_;refine AW.exit ?_;try simp
    refine hK357 _ _ _ ?_;refine SW F8 [] [none] [4,7,8] [(9,AV.lst true true (List.map (AV.int .u8) ([] : List Int)))] [] [] 0 ?_;refine AW.seq fun K419 hK419=>?_;refine SW F8 [] [none] [] [(10,Iz 0)] [] [] 0 ?_;refine AW.block ?_;refine AW.own' 9 1 true (by simp [F8]) (by decide) ?_;refine AW.loopF (α:=(Int×(List Int))) (fun n (v9,v10)=>Aac.L4 k v6 n v9 v10=some v1) (fun (v9,v10)=>[(3,Lw v6),(9,AV.slc 0 0 1 v10.length false),(10,Iz v9)]) (fun (v9,v10)=>[(0,.grow (List.map (AV.int .u8) v10))]) 1 k ((0,([] : List Int))) hF (by simp [F8]) (by simp [F8]) (by simp) ?_;rintro (_|n4) ⟨v9,v10⟩ hF K442 hK442
    ·try dsimp only at hF
     rw [Aac.L4] at hF; cases hF
    try dsimp only at hF
    rw [Aac.L4] at hF;refine AW.seq fun K444 hK444=>?_;refine SW F8 [] [none,none] [] [(56,AV.bool (decide (v9<8)))] [] [] 1 ?_;by_cases h14 : v9<8
    ·replace hF:=AaN h14 hF;have h14_:=h14;try simp at h14_
     have F9:=A3 F8 h14 h14_;refine CT (by simp [F9] <;> omega) ?_;refine AW.skip ?_;refine hK444 _ _ _ ?_;refine AW.seq fun K447 hK447=>?_;refine AW.block ?_;refine RG [] [none,none,none,none,none,none,none,none,none,none,none,none,none,none,none,none,none,none,none,none,none,none,none,none,none,none,none] fun _ _ g r=>?_;obtain ⟨v11,h15,h16,h17,hF⟩:=AaM hF;have h17_:=Aaf h17;try simp at h17_
     have h16_:=h16;try simp at h16_
     obtain ⟨h18,hF⟩:=AaJ hF;have h18_:=h18;try simp at h18_
     have F10:=A7 F9 h15 h16 h17 h17_ h16_ h18;try simp [F10]
     and_intros <;> first | exact GK g | apply r | omega | (simp [maxLen,F10] <;> omega)
     refine hK447 _ _ _ ?_;refine WK [(3,Lw v6),(9,AV.slc 1 0 1 ((v10++([IntKind.wrap .u8 (Int.fdiv v11 (2 ^ (24))),IntKind.wrap .u8 (Int.fdiv v11 (2 ^ (16))),IntKind.wrap .u8 (Int.fdiv v11 (2 ^ (8))),IntKind.wrap .u8 v11] : List Int)).length) false),(10,Iz v9)] [(1,.grow (List.map (AV.int .u8) (v10++([IntKind.wrap .u8 (Int.fdiv v11 (2 ^ (24))),IntKind.wrap .u8 (Int.fdiv v11 (2 ^ (16))),IntKind.wrap .u8 (Int.fdiv v11 (2 ^ (8))),IntKind.wrap .u8 v11] : List Int))))] 2 (by simp [F10] <;> omega) (by simp [F10]) ?_;refine RG [] [none,none,none] fun _ _ g r=>?_;try simp [F10]
     and_intros <;> first | exact GK g | apply r | omega | (simp [maxLen,F10] <;> omega)
     refine hK442 _ _ _ ?_;refine RN h0 [(0,1)] [(3,Lw v6),(9,AV.slc 0 0 1 ((v10++([IntKind.wrap .u8 (Int.fdiv v11 (2 ^ (24))),IntKind.wrap .u8 (Int.fdiv v11 (2 ^ (16))),IntKind.wrap .u8 (Int.fdiv v11 (2 ^ (8))),IntKind.wrap .u8 v11] : List Int)).length) false),(10,Iz (IntKind.wrap .i64 (v9+1)))] [(0,.grow (List.map (AV.int .u8) (v10++([IntKind.wrap .u8 (Int.fdiv v11 (2 ^ (24))),IntKind.wrap .u8 (Int.fdiv v11 (2 ^ (16))),IntKind.wrap .u8 (Int.fdiv v11 (2 ^ (8))),IntKind.wrap .u8 v11] : List Int))))] 1 (by simp [F10] <;> omega) (by simp [F10]) ?_;exact NX (k':=n4) ((IntKind.wrap .i64 (v9+1),v10++([IntKind.wrap .u8 (Int.fdiv v11 (2 ^ (24))),IntKind.wrap .u8 (Int.fdiv v11 (2 ^ (16))),IntKind.wrap .u8 (Int.fdiv v11 (2 ^ (8))),IntKind.wrap .u8 v11] : List Int))) hF (by simp [F10]) (by simp [F10])
    ·replace hF:=AaO h14 hF;have h14_:=h14;try simp at h14_
     have F11:=A3 F8 h14 h14_;refine CF (by simp [F11] <;> omega) ?_;refine AW.exit ?_;try simp
     refine hK419 _ _ _ ?_;refine WK [(9,AV.slc 0 0 1 v10.length false)] [(0,.grow (List.map (AV.int .u8) v10))] 1 (by simp [F11]) (by simp [F11]) ?_;refine AW.frz 0 (o := .grow (List.map (AV.int .u8) v10)) (by simp [F11]) rfl [(9,Lb v10)] [] ⟨(.l (by simp) (by simp) (by simp) (by simp)),trivial⟩ trivial ?_;refine WK [(9,Lb v10)] [] 1 (by simp [F11]) (by simp [F11]) ?_;refine SW F11 [] [none,none,none] [9] [(2,AV.str (ofI v10))] [] [] 1 ?_;simp only [Option.some.injEq] at hF;subst hF;refine AW.ret (hQ _ _ _ ?_ (AaE ?_)).1
     ·simp [Try.f46,F11]
     ·simp [F11]
theorem Aed (k : Nat) (v0 : (List Int)) (v1 : (List Int)) (v2 : (List Int)) (v3 : Int) (v4 : Int) (v5 : Int) (v6 : Int) (v7 : ByteArray) (v8 : Int) (hF : AcW k v0 v1 v2 v3 v4 v5 v6=some (v7,v8)) :
 AbA Try.prog 16 [AV.agg [AV.lst false false (List.map (AV.int .i64) v0),AV.lst false false (List.map (AV.int .i64) v1),AV.lst false false (List.map (AV.int .i64) v2),AV.int .i64 v3,AV.int .i64 v4,AV.int .i64 v5,AV.int .i64 v6]] [] (AV.tup [AV.str v7,AV.int .i64 v8]) []:=by
 unfold AcW at hF;refine EN Try.func16 ?_;intro c0 w0 Q h0 hQ
 refine WK [(0,AV.agg [Lz v0,Lz v1,Lz v2,Iz v3,Iz v4,Iz v5,Iz v6])] [] 0 (by simp) (by simp) ?_;refine SW trivial [] [none,none,none] [0] [(1,AV.ptr 0 0)] [] [(0,.cells [Lz v0,Lz v1,Lz v2,Iz v3,Iz v4,Iz v5,Iz v6])] 1 ?_;refine AW.seq fun K19 hK19=>?_;obtain ⟨v9,h1,hF⟩:=AaH hF;refine CL trivial [] [none,none,none] (Agg k _ _ _ _ _ _ _ _ h1) [] [(4,Iz v9)] [] [] 1 ?_;refine SW trivial [] [none,none] [] [(9,AV.bool (v9 !=0))] [] [] 1 ?_;by_cases h2 : v9≠0
 ·replace hF:=AaN h2 hF;have h2_:=AbR h2;have h2__:=AbW h2;have F1:=A3 h2 h2_ h2__;refine CT (by simp [F1] <;> omega) ?_;refine SW F1 [] [none,none,none] [1,4,9] [(2,AV.str (ByteArray.mk #[])),(3,Iz v9)] [0] [] 1 ?_;simp only [Option.some.injEq,Prod.mk.injEq] at hF;obtain ⟨e0,e1⟩:=hF;subst e0 e1;refine AW.ret (hQ _ _ _ ?_ (AaE ?_)).1
  ·simp [Try.f16,F1]
  ·simp [F1]
 ·replace hF:=AaO h2 hF;have h2q : v9=0:=Classical.not_not.1 h2;have h2_:=AbY h2q;have h2__:=AbX h2q;refine CF (by simp [h2_,h2__,h2q] <;> omega) ?_;refine AW.skip ?_;refine hK19 _ _ _ ?_;refine SR [12] [none,none,none] fun _ _ g r=>?_;have h3 : Abs.bytes [116,114,117,115,116,102,108,111,119]=List.map (AV.int .u8) (bI (ByteArray.mk #[116,114,117,115,116,102,108,111,119])):=rfl;obtain ⟨h4,hF⟩:=AaJ hF;have h4_:=h4;try simp at h4_
  have F2:=A5 h2_ h2__ h2q h3 h4;refine TL F2 g r [4,9] [(5,AV.slc 1 0 1 ((bI (ByteArray.mk #[116,114,117,115,116,102,108,111,119])).length) false)] [] [(1,.grow (List.map (AV.int .u8) (bI (ByteArray.mk #[116,114,117,115,116,102,108,111,119]))))] 2 ?_;refine SR [] [none,none,none,none,none] fun _ _ g r=>?_;try simp [F2]
  and_intros
  try any_goals first | omega | (simp [maxLen,F2] <;> omega)
  obtain ⟨v10,h5,hF⟩:=AaH hF;refine Aa6 (Ac5 k _ _ _ h5) (by simp) [1] [] [1] rfl (.cons (.same (by simp [F2])) (.cons (.same (by simp [F2])) .nil)) (by simp [F2]) (by decide) (by simp) (by simp) (.inl rfl) (by simp) (by simp) ?_;refine TL F2 g r [5] [(5,AV.slc 2 0 1 v10.length false)] [1] [(2,.grow (List.map (AV.int .u8) v10))] 3 ?_;refine SR [] [none,none,none,none,none,none] fun _ _ g r=>?_;try simp [F2]
  and_intros
  try any_goals first | omega | (simp [maxLen,F2] <;> omega)
  obtain ⟨v11,h6,hF⟩:=AaH hF;refine Aa6 (Ac5 k _ _ _ h6) (by simp) [2] [] [2] rfl (.cons (.same (by simp [F2])) (.cons (.same (by simp [F2])) .nil)) (by simp [F2]) (by decide) (by simp) (by simp) (.inl rfl) (by simp) (by simp) ?_;refine TL F2 g r [5] [(5,AV.slc 3 0 1 v11.length false)] [2] [(3,.grow (List.map (AV.int .u8) v11))] 4 ?_;refine SR [] [none,none,none,none,none,none] fun _ _ g r=>?_;try simp [F2]
  and_intros
  try any_goals first | omega | (simp [maxLen,F2] <;> omega)
  obtain ⟨v12,h7,hF⟩:=AaH hF;refine Aa6 (Ac5 k _ _ _ h7) (by simp) [3] [] [3] rfl (.cons (.same (by simp [F2])) (.cons (.same (by simp [F2])) .nil)) (by simp [F2]) (by decide) (by simp) (by simp) (.inl rfl) (by simp) (by simp) ?_;refine TL F2 g r [5] [(5,AV.slc 4 0 1 v12.length false)] [3] [(4,.grow (List.map (AV.int .u8) v12))] 5 ?_;refine SR [] [none,none,none,none,none,none,none,none,none,none,none,none,none] fun _ _ g r=>?_;try simp [F2]
  and_intros
  try any_goals first | omega | (simp [maxLen,F2] <;> omega)
  obtain ⟨v13,h8,hF⟩:=AaH hF;refine Aa6 (Ac5 k _ _ _ h8) (by simp) [4] [] [4] rfl (.cons (.same (by simp [F2])) (.cons (Coe.fl (by simp [F2])) .nil)) (by simp [F2]) (by decide) (by simp) (by simp) (.inl rfl) (by simp) (by simp) ?_;refine TL F2 g r [1,5] [(5,AV.slc 5 0 1 v13.length false)] [0,4] [(5,.grow (List.map (AV.int .u8) v13))] 6 ?_;refine AW.frz 5 (o := .grow (List.map (AV.int .u8) v13)) (by simp [F2]) rfl [(5,Lb v13)] [] ⟨(.l (by simp) (by simp) (by simp) (by simp)),trivial⟩ trivial ?_;refine WK [(5,Lb v13)] [] 6 (by simp [F2]) (by simp [F2]) ?_;obtain ⟨v14,h9,hF⟩:=AaH hF;refine CL F2 [] [none,none,none,none] (Ah0 k _ _ h9) [5] [(2,AV.str v14),(3,Iz 0)] [] [] 6 ?_;simp only [Option.some.injEq,Prod.mk.injEq] at hF;obtain ⟨e0,e1⟩:=hF;subst e0 e1;refine AW.ret (hQ _ _ _ ?_ (AaE ?_)).1
  ·simp [Try.f16,F2]
  ·simp [F2]
end Go.TF
set_option linter.unusedVariables false
set_option linter.unusedSimpArgs false
set_option maxRecDepth 100000
set_option maxHeartbeats 4000000
namespace Go.TF
open Go Go.Abs Go.Proofs Go.Proofs.YtomgdcnbceiggaaBaT
theorem Acg (k : Nat) (v0 : (List Int)) (v1 : (List Int)) (v2 : Bool) (hF : Aat k v0 v1=some v2) :
 AbA Try.prog 17 [AV.lst false false (List.map (AV.int .i64) v0),AV.lst false false (List.map (AV.int .i64) v1)] [] (AV.bool v2) []:=by
 unfold Aat at hF;refine EN Try.func17 ?_;intro c0 w0 Q h0 hQ
 refine WK [(0,Lz v0),(1,Lz v1)] [] 0 (by simp) (by simp) ?_;refine SW trivial [] [none] [] [] [] [] 0 ?_;refine AW.seq fun K88 hK88=>?_;refine SW trivial [] [none,none,none,none,none] [] [(10,AV.bool ((v0.length : Int) !=(v1.length : Int)))] [] [] 0 ?_;by_cases h1 : (v0.length : Int)≠(v1.length : Int)
 ·replace hF:=AaN h1 hF;have h1_:=AbR h1;have h1__:=AbW h1;have F1:=A3 h1 h1_ h1__;refine CT (by simp [F1] <;> omega) ?_;refine SW F1 [] [none] [0,1,10] [(4,AV.bool false)] [] [] 0 ?_;simp only [Option.some.injEq] at hF;subst hF;refine AW.ret (hQ _ _ _ ?_ (AaE ?_)).1
  ·simp [Try.f17,F1]
  ·simp [F1]
 ·replace hF:=AaO h1 hF;have h1q : (v0.length : Int)=(v1.length : Int):=Classical.not_not.1 h1;have h1_:=AbY h1q;have h1__:=AbX h1q;refine CF (by simp [h1_,h1__] <;> omega) ?_;refine AW.skip ?_;refine hK88 _ _ _ ?_;refine AW.seq fun K129 hK129=>?_;refine SW (A2 h1_ h1__) [] [none] [10] [(5,Iz 0)] [] [] 0 ?_;refine AW.block ?_;refine AW.loopF (α:=Int) (fun n v3=>Aat.L1 k v0 v1 n v3=some v2) (fun v3=>[(0,Lz v0),(1,Lz v1),(5,Iz v3)]) (fun v3=>[]) 0 k (0) hF (by simp [h1_,h1__]) (by simp [h1_,h1__]) (by simp) ?_;rintro (_|n1) v3 hF K158 hK158
  ·try dsimp only at hF
   rw [Aat.L1] at hF; cases hF
  try dsimp only at hF
  rw [Aat.L1] at hF;refine AW.seq fun K160 hK160=>?_;refine SW (A2 h1_ h1__) [] [none,none,none,none] [] [(14,AV.bool (decide (v3<(v0.length : Int))))] [] [] 0 ?_;by_cases h2 : v3<(v0.length : Int)
  ·replace hF:=AaN h2 hF;have h2_:=h2;try simp at h2_
   have F2:=A4 h1_ h1__ h2 h2_;refine CT (by simp [F2] <;> omega) ?_;refine AW.skip ?_;refine hK160 _ _ _ ?_;refine AW.seq fun K164 hK164=>?_;refine AW.block ?_;refine SR [] [none,none,none,none,none,none,none,none,none] fun _ _ g r=>?_;obtain ⟨v4,h3,h4,h5,hF⟩:=AaM hF;have h5_:=Aaf h5;try simp at h5_
   have h4_:=h4;try simp at h4_
   obtain ⟨v5,h6,h7,h8,hF⟩:=AaM hF;have h8_:=Aaf h8;try simp at h8_
   have h7_:=h7;try simp at h7_
   have F3:=A9 F2 h3 h4 h5 h5_ h4_ h6 h7 (A3 h8 h8_ h7_);refine TL F3 g r [] [(25,AV.bool (v4 !=v5))] [] [] 0 ?_;by_cases h9 : v4≠v5
   ·replace hF:=AaN h9 hF;have h9_:=AbR h9;have h9__:=AbW h9;have F4:=A4 F3 h9 h9_ h9__;refine CT (by simp [F4] <;> omega) ?_;refine SW F4 [] [none] [0,1,5,25] [(4,AV.bool false)] [] [] 0 ?_;simp only [Option.some.injEq] at hF;subst hF;refine AW.ret (hQ _ _ _ ?_ (AaE ?_)).1
    ·simp [Try.f17,F4]
    ·simp [F4]
   ·replace hF:=AaO h9 hF;have h9q : v4=v5:=Classical.not_not.1 h9;have h9_:=AbY h9q;have h9__:=AbX h9q;have F5:=A3 F3 h9_ h9__;refine CF (by simp [F5] <;> omega) ?_;refine AW.skip ?_;refine hK164 _ _ _ ?_;refine RG [] [none,none,none] fun _ _ g r=>?_;try simp [F5]
    and_intros <;> first | exact GK g | apply r | omega | (simp [maxLen,F5] <;> omega)
    refine hK158 _ _ _ ?_;exact NX (k':=n1) (IntKind.wrap .i64 (v3+1)) hF (by simp [F5]) (by simp [F5])
  ·replace hF:=AaO h2 hF;have h2_:=h2;try simp at h2_
   have F6:=A4 h1_ h1__ h2 h2_;refine CF (by simp [F6] <;> omega) ?_;refine AW.exit ?_;try simp
   refine hK129 _ _ _ ?_;refine SW F6 [] [none] [0,1,5] [(4,AV.bool true)] [] [] 0 ?_;simp only [Option.some.injEq] at hF;subst hF;refine AW.ret (hQ _ _ _ ?_ (AaE ?_)).1
   ·simp [Try.f17,F6]
   ·simp [F6]
theorem AeP (k : Nat) (v0 : (List Int)) (v1 : Bool) (hF : Aah k v0=some v1) :
 AbA Try.prog 4 [AV.lst false false (List.map (AV.int .i64) v0)] [] (AV.bool v1) []:=by
 unfold Aah at hF;refine EN Try.func4 ?_;intro c0 w0 Q h0 hQ
 refine WK [(0,Lz v0)] [] 0 (by simp) (by simp) ?_;refine SW trivial [] [none] [] [] [] [] 0 ?_;refine AW.seq fun K21 hK21=>?_;obtain ⟨v2,h1,hF⟩:=AaH hF;refine CL trivial [] [none,none,none] (AhC k _ _ h1) [] [(20,AV.bool (!v2))] [] [] 0 ?_;by_cases h2 : (!v2)=true
 ·replace hF:=AaN h2 hF;have h2_:=h2;try simp at h2_
  refine CT (by simp [h2,h2_] <;> omega) ?_;refine SR [] [none,none] fun _ _ g r=>?_;try simp [h2,h2_]
  and_intros
  try any_goals first | omega | (simp [h2,h2_,maxLen] <;> omega)
  obtain ⟨v3,h3,hF⟩:=AaH hF;refine AC (Aee k _ h3) .nil ?_;refine TL (A2 h2 h2_) g r [0,20] [(2,AV.bool v3)] [] [] 0 ?_;simp only [Option.some.injEq] at hF;subst hF;refine AW.ret (hQ _ _ _ ?_ (AaE ?_)).1
  ·simp [Try.f4,h2,h2_]
  ·simp [h2,h2_]
 ·replace hF:=AaO h2 hF;have h2_:=h2;try simp at h2_
  refine CF (by simp [h2,h2_] <;> omega) ?_;refine AW.skip ?_;refine hK21 _ _ _ ?_;obtain ⟨v4,v5,h4,hF⟩:=Aax hF;refine CL (A2 h2 h2_) [] [none,none,none] (Ah1 k _ _ _ h4) [0,20] [(3,AV.ptr 0 0)] [] [(0,.cells [Lz v4,Iz v5])] 1 ?_;refine SR [] [none,none,none,none,none,none,none,none] fun _ _ g r=>?_;try simp [h2,h2_]
  and_intros
  try any_goals first | omega | (simp [h2,h2_,maxLen] <;> omega)
  obtain ⟨v6,v7,v8,v9,v10,v11,v12,v13,h5,hF⟩:=Afx hF;refine Aa6 (AfI k _ _ _ _ _ _ _ _ _ _ h5) (by simp) [0] [] [0] rfl (.cons (.same (by simp [h2,h2_])) .nil) (by simp [h2,h2_]) (by decide) (by simp) (by simp) (.inl rfl) (by simp) (by simp) ?_;try simp [h2,h2_]
  and_intros
  try any_goals first | omega | (simp [h2,h2_,maxLen] <;> omega)
  obtain ⟨v14,v15,v16,v17,v18,v19,v20,v21,h6,hF⟩:=Afx hF;refine Aa6 (AfI k _ _ _ _ _ _ _ _ _ _ h6) (by simp) [0] [] [0] rfl (.cons (.same (by simp [h2,h2_])) .nil) (by simp [h2,h2_]) (by decide) (by simp) (by simp) (.inl rfl) (by simp) (by simp) ?_;refine TL (A2 h2 h2_) g r [] [(4,AV.ptr 3 0),(5,AV.ptr 4 0)] [0] [(0,.cells [Lz v4,Iz v21]),(1,Ci v8),(2,Ci v16),(3,.cells [Lz v6,Lz v7,AV.slc 1 0 1 v8.length false,Iz v9,Iz v10,Iz v11,Iz v12]),(4,.cells [Lz v14,Lz v15,AV.slc 2 0 1 v16.length false,Iz v17,Iz v18,Iz v19,Iz v20])] 5 ?_;refine AW.frz 1 (o:=Ci v8) (by simp [h2,h2_]) rfl [] [(3,.cells [Lz v6,Lz v7,Lz v8,Iz v9,Iz v10,Iz v11,Iz v12])] trivial ⟨⟨by simp,Aaj.cells [Lz v6,Lz v7,AV.slc 1 0 1 v8.length false,Iz v9,Iz v10,Iz v11,Iz v12],by simp [h2,h2_],(.mk (.cons (.same _) (.cons (.same _) (.cons (.l (by simp) (by simp) (by simp) (by simp)) (.cons (.same _) (.cons (.same _) (.cons (.same _) (.cons (.same _) .nil))))))))⟩,trivial⟩ ?_;refine AW.frz 2 (o:=Ci v16) (by simp [h2,h2_]) rfl [] [(4,.cells [Lz v14,Lz v15,Lz v16,Iz v17,Iz v18,Iz v19,Iz v20])] trivial ⟨⟨by simp,Aaj.cells [Lz v14,Lz v15,AV.slc 2 0 1 v16.length false,Iz v17,Iz v18,Iz v19,Iz v20],by simp [h2,h2_],(.mk (.cons (.same _) (.cons (.same _) (.cons (.l (by simp) (by simp) (by simp) (by simp)) (.cons (.same _) (.cons (.same _) (.cons (.same _) (.cons (.same _) .nil))))))))⟩,trivial⟩ ?_;refine WK [(3,AV.ptr 0 0),(4,AV.ptr 3 0),(5,AV.ptr 4 0)] [(0,.cells [Lz v4,Iz v21]),(3,.cells [Lz v6,Lz v7,Lz v8,Iz v9,Iz v10,Iz v11,Iz v12]),(4,.cells [Lz v14,Lz v15,Lz v16,Iz v17,Iz v18,Iz v19,Iz v20])] 5 (by simp [h2,h2_]) (by simp [h2,h2_]) ?_;refine SR [] [none,none,none,none,none] fun _ _ g r=>?_;try simp [h2,h2_]
  and_intros
  try any_goals first | omega | (simp [h2,h2_,maxLen] <;> omega)
  obtain ⟨v22,v23,v24,v25,v26,v27,v28,v29,h7,hF⟩:=Afx hF;refine Aa6 (Ai5 k _ _ _ _ _ _ _ _ _ _ _ _ _ _ _ _ _ h7) (by simp) [0] [] [0] rfl (.cons (.same (by simp [h2,h2_])) (.cons (.same (by simp [h2,h2_])) .nil)) (by simp [h2,h2_]) (by decide) (by simp) (by simp) (.inl rfl) (by simp) (by simp) ?_;refine TL (A2 h2 h2_) g r [3] [(6,AV.ptr 5 0)] [0] [(5,.cells [Lz v22,Lz v23,Lz v24,Iz v25,Iz v26,Iz v27,Iz v28])] 6 ?_;obtain ⟨v30,v31,h8,hF⟩:=Aax hF;refine CL (A2 h2 h2_) [] [none,none,none,none,none,none,none] (AdC k _ _ _ _ _ _ _ _ _ h8) [] [(7,AV.str v30),(8,Iz v31)] [] [] 6 ?_;obtain ⟨v32,v33,h9,hF⟩:=Aax hF;refine CL (A2 h2 h2_) [] [none,none,none,none,none,none,none] (Aed k _ _ _ _ _ _ _ _ _ h9) [] [(9,AV.str v32),(10,Iz v33)] [] [] 6 ?_;obtain ⟨v34,v35,h10,hF⟩:=Aax hF;refine CL (A2 h2 h2_) [] [none,none,none,none,none,none,none] (AdC k _ _ _ _ _ _ _ _ _ h10) [] [(11,AV.str v34),(12,Iz v35)] [] [] 6 ?_;obtain ⟨v36,v37,h11,hF⟩:=Aax hF;refine CL (A2 h2 h2_) [] [none,none,none,none,none,none,none] (Aed k _ _ _ _ _ _ _ _ _ h11) [6] [(13,AV.str v36),(14,Iz v37)] [5] [] 6 ?_;obtain ⟨v38,v39,h12,hF⟩:=Aax hF;refine CL (A2 h2 h2_) [] [none,none,none,none,none,none,none] (AdC k _ _ _ _ _ _ _ _ _ h12) [] [(15,AV.str v38),(16,Iz v39)] [] [] 6 ?_;refine AW.midF (α:=Bool) (fun v40=>Aah.J1 k v30 v31 v32 v33 v34 v35 v36 v37 v38 v39 v40=some v1) (fun v40=>[(7,AV.str v30),(8,Iz v31),(9,AV.str v32),(10,Iz v33),(11,AV.str v34),(12,Iz v35),(13,AV.str v36),(14,Iz v37),(15,AV.str v38),(16,Iz v39),(17,AV.bool v40)]) (fun v40=>[]) 0 (fun K34 hK34=>?_) ?_
  ·refine RG [] [none,none,none,none,none,none,some (61,true),some (61,true),some (61,true),some (61,true),some (61,true),some (61,true),some (61,true),none,none,some (70,true),some (70,true),some (70,true),some (70,true),some (70,true),some (70,true),some (70,true),none,none,some (79,true),some (79,true),some (79,true),some (79,true),some (79,true),some (79,true),some (79,true),none,none,some (88,true),some (88,true),some (88,true),some (88,true),some (88,true),none,none,some (95,true),some (95,true),some (95,true),some (95,true),some (95,true),none,none,some (102,true),some (102,true),some (102,true),some (102,true),some (102,true),none,none] fun _ _ g r=>?_;try simp [h2,h2_]
   and_intros
   try any_goals first | omega | (simp [h2,h2_,maxLen] <;> omega)
   obtain ⟨v42,h20,hF⟩:=AaH hF;refine AC (Acg k _ _ _ h20) (.cons (.same (by simp [h2,h2_])) (.cons (.same (by simp [h2,h2_])) .nil)) ?_;by_cases h21 : v42=true
   ·replace hF:=AaN h21 hF;have h21_:=h21;try simp at h21_
    have F1:=A4 h2 h2_ h21 h21_;try simp [F1]
    and_intros
    try any_goals first | omega | (simp [maxLen,F1] <;> omega)
    obtain ⟨v43,h22,hF⟩:=AaH hF;refine AC (Acg k _ _ _ h22) (.cons (.same (by simp [F1])) (.cons (.same (by simp [F1])) .nil)) ?_;by_cases h23 : v43=true
    ·replace hF:=AaN h23 hF;have h23_:=h23;try simp at h23_
     have F2:=A3 F1 h23 h23_;try simp [F2]
     and_intros
     try any_goals first | omega | (simp [maxLen,F2] <;> omega)
     obtain ⟨v44,h24,hF⟩:=AaH hF;refine AC (Acg k _ _ _ h24) (.cons (.same (by simp [F2])) (.cons (.same (by simp [F2])) .nil)) ?_;by_cases h25 : v44=true
     ·replace hF:=AaN h25 hF;have h25_:=h25;try simp at h25_
      by_cases h26 : v9=v17
      ·replace hF:=AaN h26 hF;have h26q : v9=v17:=h26;have h26_:=AbY h26q;have h26__:=AbX h26q;by_cases h27 : v10=v18
       ·replace hF:=AaN h27 hF;have h27q : v10=v18:=h27;have h27_:=AbY h27q;have h27__:=AbX h27q;by_cases h28 : v11=v19
        ·replace hF:=AaN h28 hF;have h28q : v11=v19:=h28;have h28_:=AbY h28q;have h28__:=AbX h28q;have F3:=A9 F2 h25 h25_ h26_ h26__ h27_ h27__ h28_ h28__;try simp [F3]
         and_intros <;> first | exact GK g | apply r | omega | (simp [maxLen,F3] <;> omega)
         refine hK34 _ _ _ ?_;refine RN h0 [] [(7,AV.str v30),(8,Iz v31),(9,AV.str v32),(10,Iz v33),(11,AV.str v34),(12,Iz v35),(13,AV.str v36),(14,Iz v37),(15,AV.str v38),(16,Iz v39),(17,AV.bool (v12==v20))] [] 0 (by simp [F3]) (by simp [F3]) ?_;exact JN ((v12==v20)) hF (by simp [F3]) (by simp [F3])
        ·replace hF:=AaO h28 hF;have h28_:=AbR h28;have h28__:=AbW h28;have F4:=A9 F2 h25 h25_ h26_ h26__ h27_ h27__ h28 (A2 h28_ h28__);try simp [F4]
         and_intros <;> first | exact GK g | apply r | omega | (simp [maxLen,F4] <;> omega)
         refine hK34 _ _ _ ?_;refine RN h0 [] [(7,AV.str v30),(8,Iz v31),(9,AV.str v32),(10,Iz v33),(11,AV.str v34),(12,Iz v35),(13,AV.str v36),(14,Iz v37),(15,AV.str v38),(16,Iz v39),(17,AV.bool false)] [] 0 (by simp [F4]) (by simp [F4]) ?_;exact JN (false) hF (by simp [F4]) (by simp [F4])
       ·replace hF:=AaO h27 hF;have h27_:=AbR h27;have h27__:=AbW h27;have F5:=A8 F2 h25 h25_ h26_ h26__ h27 h27_ h27__;try simp [F5]
        and_intros <;> first | exact GK g | apply r | omega | (simp [maxLen,F5] <;> omega)
        refine hK34 _ _ _ ?_;refine RN h0 [] [(7,AV.str v30),(8,Iz v31),(9,AV.str v32),(10,Iz v33),(11,AV.str v34),(12,Iz v35),(13,AV.str v36),(14,Iz v37),(15,AV.str v38),(16,Iz v39),(17,AV.bool false)] [] 0 (by simp [F5]) (by simp [F5]) ?_;exact JN (false) hF (by simp [F5]) (by simp [F5])
      ·replace hF:=AaO h26 hF;have h26_:=AbR h26;have h26__:=AbW h26;have F6:=A6 F2 h25 h25_ h26 h26_ h26__;try simp [F6]
       and_intros <;> first | exact GK g | apply r | omega | (simp [maxLen,F6] <;> omega)
       refine hK34 _ _ _ ?_;refine RN h0 [] [(7,AV.str v30),(8,Iz v31),(9,AV.str v32),(10,Iz v33),(11,AV.str v34),(12,Iz v35),(13,AV.str v36),(14,Iz v37),(15,AV.str v38),(16,Iz v39),(17,AV.bool false)] [] 0 (by simp [F6]) (by simp [F6]) ?_;exact JN (false) hF (by simp [F6]) (by simp [F6])
     ·replace hF:=AaO h25 hF;have h25_:=h25;try simp at h25_
      have F7:=A3 F2 h25 h25_;try simp [F7]
      and_intros <;> first | exact GK g | apply r | omega | (simp [maxLen,F7] <;> omega)
      refine hK34 _ _ _ ?_;refine RN h0 [] [(7,AV.str v30),(8,Iz v31),(9,AV.str v32),(10,Iz v33),(11,AV.str v34),(12,Iz v35),(13,AV.str v36),(14,Iz v37),(15,AV.str v38),(16,Iz v39),(17,AV.bool false)] [] 0 (by simp [F7]) (by simp [F7]) ?_;exact JN (false) hF (by simp [F7]) (by simp [F7])
    ·replace hF:=AaO h23 hF;have h23_:=h23;try simp at h23_
     have F8:=A3 F1 h23 h23_;try simp [F8]
     and_intros <;> first | exact GK g | apply r | omega | (simp [maxLen,F8] <;> omega)
     refine hK34 _ _ _ ?_;refine RN h0 [] [(7,AV.str v30),(8,Iz v31),(9,AV.str v32),(10,Iz v33),(11,AV.str v34),(12,Iz v35),(13,AV.str v36),(14,Iz v37),(15,AV.str v38),(16,Iz v39),(17,AV.bool false)] [] 0 (by simp [F8]) (by simp [F8]) ?_;exact JN (false) hF (by simp [F8]) (by simp [F8])
   ·replace hF:=AaO h21 hF;have h21_:=h21;try simp at h21_
    have F9:=A4 h2 h2_ h21 h21_;try simp [F9]
    and_intros <;> first | exact GK g | apply r | omega | (simp [maxLen,F9] <;> omega)
    refine hK34 _ _ _ ?_;refine RN h0 [] [(7,AV.str v30),(8,Iz v31),(9,AV.str v32),(10,Iz v33),(11,AV.str v34),(12,Iz v35),(13,AV.str v36),(14,Iz v37),(15,AV.str v38),(16,Iz v39),(17,AV.bool false)] [] 0 (by simp [F9]) (by simp [F9]) ?_;exact JN (false) hF (by simp [F9]) (by simp [F9])
  ·rintro v40 hF
   try dsimp only at hF
   unfold Aah.J1 at hF;refine SR [] [none,none,none,none,some (112,true),some (112,true),some (112,true),none,none,some (117,true),some (117,true),some (117,true),none,none,some (122,true),some (122,true),some (122,true),none,none,some (127,true),some (127,true),none,none,some (131,true),some (131,true),some (131,true),some (131,true),some (131,true),none,none,some (138,true),none,none] fun _ _ g r=>?_;by_cases h13 : v31=v33
   ·replace hF:=AaN h13 hF;have h13q : v31=v33:=h13;have h13_:=AbY h13q;have h13__:=AbX h13q;by_cases h14 : (Acj v30 v32)=true
    ·replace hF:=AaN h14 hF;have h14_:=h14;try simp at h14_
     by_cases h15 : v35=v37
     ·replace hF:=AaN h15 hF;have h15q : v35=v37:=h15;have h15_:=AbY h15q;have h15__:=AbX h15q;by_cases h16 : (Acj v34 v36)=true
      ·replace hF:=AaN h16 hF;have h16_:=h16;try simp at h16_
       by_cases h17 : v39=0
       ·replace hF:=AaN h17 hF;have h17q : v39=0:=h17;have h17_:=AbY h17q;have h17__:=AbX h17q;by_cases h18 : ((Acj v38 v30)==v40)=true
        ·replace hF:=AaN h18 hF;have h18_:=h18;try simp at h18_
         have F10:=A9 h2 h2_ h13_ h13__ h14 h14_ h15_ h15__ (A7 h16 h16_ h17_ h17__ h17q h18 h18_);try simp [F10]
         and_intros
         try any_goals first | omega | (simp [maxLen,F10] <;> omega)
         obtain ⟨v41,h19,hF⟩:=AaH hF;refine AC (Aee k _ h19) .nil ?_;refine TL F10 g r [7,8,9,10,11,12,13,14,15,16,17] [(2,AV.bool v41)] [] [] 0 ?_;simp only [Option.some.injEq] at hF;subst hF;refine AW.ret (hQ _ _ _ ?_ (AaE ?_)).1
         ·simp [Try.f4,F10]
         ·simp [F10]
        ·replace hF:=AaO h18 hF;have h18_:=h18;try simp at h18_
         have F11:=A9 h2 h2_ h13_ h13__ h14 h14_ h15_ h15__ (A7 h16 h16_ h17_ h17__ h17q h18 h18_);refine TL F11 g r [7,8,9,10,11,12,13,14,15,16,17] [(2,AV.bool false)] [] [] 0 ?_;simp only [Option.some.injEq] at hF;subst hF;refine AW.ret (hQ _ _ _ ?_ (AaE ?_)).1
         ·simp [Try.f4,F11]
         ·simp [F11]
       ·replace hF:=AaO h17 hF;have h17_:=AbR h17;have h17__:=AbW h17;have F12:=A9 h2 h2_ h13_ h13__ h14 h14_ h15_ h15__ (A5 h16 h16_ h17 h17_ h17__);refine TL F12 g r [7,8,9,10,11,12,13,14,15,16,17] [(2,AV.bool false)] [] [] 0 ?_;simp only [Option.some.injEq] at hF;subst hF;refine AW.ret (hQ _ _ _ ?_ (AaE ?_)).1
        ·simp [Try.f4,F12]
        ·simp [F12]
      ·replace hF:=AaO h16 hF;have h16_:=h16;try simp at h16_
       have F13:=A9 h2 h2_ h13_ h13__ h14 h14_ h15_ h15__ (A2 h16 h16_);refine TL F13 g r [7,8,9,10,11,12,13,14,15,16,17] [(2,AV.bool false)] [] [] 0 ?_;simp only [Option.some.injEq] at hF;subst hF;refine AW.ret (hQ _ _ _ ?_ (AaE ?_)).1
       ·simp [Try.f4,F13]
       ·simp [F13]
     ·replace hF:=AaO h15 hF;have h15_:=AbR h15;have h15__:=AbW h15;have F14:=A9 h2 h2_ h13_ h13__ h14 h14_ h15 h15_ h15__;refine TL F14 g r [7,8,9,10,11,12,13,14,15,16,17] [(2,AV.bool false)] [] [] 0 ?_;simp only [Option.some.injEq] at hF;subst hF;refine AW.ret (hQ _ _ _ ?_ (AaE ?_)).1
      ·simp [Try.f4,F14]
      ·simp [F14]
    ·replace hF:=AaO h14 hF;have h14_:=h14;try simp at h14_
     have F15:=A6 h2 h2_ h13_ h13__ h14 h14_;refine TL F15 g r [7,8,9,10,11,12,13,14,15,16,17] [(2,AV.bool false)] [] [] 0 ?_;simp only [Option.some.injEq] at hF;subst hF;refine AW.ret (hQ _ _ _ ?_ (AaE ?_)).1
     ·simp [Try.f4,F15]
     ·simp [F15]
   ·replace hF:=AaO h13 hF;have h13_:=AbR h13;have h13__:=AbW h13;have F16:=A5 h2 h2_ h13 h13_ h13__;refine TL F16 g r [7,8,9,10,11,12,13,14,15,16,17] [(2,AV.bool false)] [] [] 0 ?_;simp only [Option.some.injEq] at hF;subst hF;refine AW.ret (hQ _ _ _ ?_ (AaE ?_)).1
    ·simp [Try.f4,F16]
    ·simp [F16]
end Go.TF
