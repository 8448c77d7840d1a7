import Derived.Test.YtomgdcnbceiggaaBazWal27
import Derived.Test.YtomgdcnbceiggaaBazWal28
import Derived.Test.YtomgdcnbceiggaaBazWal30
set_option linter.unusedVariables false
set_option linter.unusedSimpArgs false
set_option maxRecDepth 100000
set_option maxHeartbeats 4000000
namespace Go.TF
open Go Go.Abs Go.Proofs Go.Proofs.YtomgdcnbceiggaaBaT
theorem AfM (k : Nat) (v0 : (List Int)) (v1 : (List Int)) (v2 : (List Int)) (hF : AcA k v0 v1=some v2) :
 AbA Try.prog 43 [AV.slc 0 0 1 v0.length false,AV.lst false false (List.map (AV.int .i64) v1)] [.grow (List.map (AV.int .u8) v0)] (AV.slc 1 0 1 v2.length false) [none,some (.grow (List.map (AV.int .u8) v2))]:=by
 unfold AcA at hF;refine EN Try.func43 ?_;intro c0 w0 Q h0 hQ
 refine WK [(0,AV.slc 0 0 1 v0.length false),(1,Lz v1)] [(0,.grow (List.map (AV.int .u8) v0))] 1 (by simp) (by simp) ?_;refine SW trivial [] [none] [] [] [] [] 1 ?_;refine SR [] [none,none,none,none,none,none,none,none] fun _ _ g r=>?_;try simp
 and_intros
 try any_goals first | omega | (simp [maxLen] <;> omega)
 obtain ⟨v3,h1,hF⟩:=AaH hF;refine Aa6 (AdM k _ _ _ h1) (by simp) [0] [] [0] rfl (.cons (.same (by simp)) (.cons (Coe.fl (by simp)) .nil)) (by simp) (by decide) (by simp) (by simp) (.inl rfl) (by simp) (by simp) ?_;try simp
 and_intros
 try any_goals first | omega | (simp [maxLen] <;> omega)
 obtain ⟨v4,h2,hF⟩:=AaH hF;refine Aa6 (AdM k _ _ _ h2) (by simp) [1] [] [1] rfl (.cons (.same (by simp)) (.cons (.same (by simp)) .nil)) (by simp) (by decide) (by simp) (by simp) (.inl rfl) (by simp) (by simp) ?_;refine TL trivial g r [0,1] [(4,AV.slc 2 0 1 v4.length false)] [0] [(2,.grow (List.map (AV.int .u8) v4))] 3 ?_;refine AW.rnm (m:=1) h0 [(1,2)] [(4,AV.slc 1 0 1 v4.length false)] [(1,.grow (List.map (AV.int .u8) v4))] 2 (by decide) (by decide) (by decide) rfl (by simp) (by simp) ?_;simp only [Option.some.injEq] at hF;subst hF;refine AW.ret (hQ _ _ _ ?_ (AaE ?_)).1
 ·simp [Try.f43]
 ·simp
theorem AdC (k : Nat) (v0 : (List Int)) (v1 : (List Int)) (v2 : (List Int)) (v3 : Int) (v4 : Int) (v5 : Int) (v6 : Int) (v7 : ByteArray) (v8 : Int) (hF : Aay k v0 v1 v2 v3 v4 v5 v6=some (v7,v8)) :
 AbA Try.prog 15 [AV.agg [AV.lst false false (List.map (AV.int .i64) v0),AV.lst false false (List.map (AV.int .i64) v1),AV.lst false false (List.map (AV.int .i64) v2),AV.int .i64 v3,AV.int .i64 v4,AV.int .i64 v5,AV.int .i64 v6]] [] (AV.tup [AV.str v7,AV.int .i64 v8]) []:=by
 unfold Aay at hF;refine EN Try.func15 ?_;intro c0 w0 Q h0 hQ
 refine WK [(0,AV.agg [Lz v0,Lz v1,Lz v2,Iz v3,Iz v4,Iz v5,Iz v6])] [] 0 (by simp) (by simp) ?_;refine SW trivial [] [none,none,none] [0] [(1,AV.ptr 0 0)] [] [(0,.cells [Lz v0,Lz v1,Lz v2,Iz v3,Iz v4,Iz v5,Iz v6])] 1 ?_;refine AW.seq fun K183 hK183=>?_;obtain ⟨v9,h1,hF⟩:=AaH hF;refine CL trivial [] [none,none,none] (Af2 k _ _ _ _ _ _ _ _ h1) [] [(4,Iz v9)] [] [] 1 ?_;refine SW trivial [] [none,none] [] [(13,AV.bool (v9 !=0))] [] [] 1 ?_;by_cases h2 : v9≠0
 ·replace hF:=AaN h2 hF;have h2_:=AbR h2;have h2__:=AbW h2;have F1:=A3 h2 h2_ h2__;refine CT (by simp [F1] <;> omega) ?_;refine SW F1 [] [none,none,none] [1,4,13] [(2,AV.str (ByteArray.mk #[])),(3,Iz v9)] [0] [] 1 ?_;simp only [Option.some.injEq,Prod.mk.injEq] at hF;obtain ⟨e0,e1⟩:=hF;subst e0 e1;refine AW.ret (hQ _ _ _ ?_ (AaE ?_)).1
  ·simp [Try.f15,F1]
  ·simp [F1]
 ·replace hF:=AaO h2 hF;have h2q : v9=0:=Classical.not_not.1 h2;have h2_:=AbY h2q;have h2__:=AbX h2q;have F2:=A3 h2_ h2__ h2q;refine CF (by simp [F2] <;> omega) ?_;refine AW.skip ?_;refine hK183 _ _ _ ?_;refine SW F2 [] [none] [4,13] [(5,AV.lst true true (List.map (AV.int .u8) ([] : List Int)))] [] [] 1 ?_;refine AW.seq fun K237 hK237=>?_;refine SW F2 [] [none] [] [(15,AV.ptr 1 0)] [] [(1,.it (ByteArray.mk #[116,114,117,115,116,102,108,111,119]) 0)] 2 ?_;refine AW.block ?_;refine AW.own' 5 1 true (by simp [F2]) (by decide) ?_;refine AW.rounds 10 ?_;refine Can.round fun K239 hK239=>?_;refine SQ [] [none,none] fun _ _ g r=>?_;try simp [F2]
  and_intros <;> first | exact GK g | apply r | omega | (simp [maxLen,F2] <;> omega)
  refine WK [(1,AV.ptr 0 0),(5,AV.slc 2 0 1 (([] : List Int).length) false),(15,AV.ptr 1 0),(16,AV.tup [AV.bool true,Iz 0,AV.int .i32 116]),(17,AV.bool true)] [(0,.cells [Lz v0,Lz v1,Lz v2,Iz v3,Iz v4,Iz v5,Iz v6]),(1,.it (ByteArray.mk #[116,114,117,115,116,102,108,111,119]) 1),(2,.grow (List.map (AV.int .u8) ([] : List Int)))] 3 (by simp [F2]) (by simp [F2]) ?_;refine AW.seq fun K241 hK241=>?_;refine CT (by simp [F2]) ?_;refine AW.skip ?_;refine hK241 _ _ _ ?_;refine AW.block ?_;refine SW F2 [] [none,none] [16,17] [(7,AV.int .i32 116)] [] [] 3 ?_;refine RG [] [none,none,none,none,none,none] fun _ _ g r=>?_;have h3 : IntKind.wrap .u8 116=116:=by decide
  obtain ⟨h4,hF⟩:=AaJ hF;have h4_:=h4;try simp at h4_
  have F3:=A3 F2 h3 h4;try simp [F3]
  and_intros <;> first | exact GK g | apply r | omega | (simp [maxLen,F3] <;> omega)
  refine hK239 _ _ _ ?_;refine Can.weak [(1,AV.ptr 0 0),(5,AV.slc 3 0 1 (([116] : List Int).length) false),(15,AV.ptr 1 0)] [(0,.cells [Lz v0,Lz v1,Lz v2,Iz v3,Iz v4,Iz v5,Iz v6]),(1,.it (ByteArray.mk #[116,114,117,115,116,102,108,111,119]) 1),(3,.grow (List.map (AV.int .u8) ([116] : List Int)))] 4 (by simp [F3]) (by simp [F3]) (by simp) ?_;refine Can.round fun K244 hK244=>?_;refine SQ [] [none,none] fun _ _ g r=>?_;try simp [F3]
  and_intros <;> first | exact GK g | apply r | omega | (simp [maxLen,F3] <;> omega)
  refine WK [(1,AV.ptr 0 0),(5,AV.slc 3 0 1 (([116] : List Int).length) false),(15,AV.ptr 1 0),(16,AV.tup [AV.bool true,Iz 1,AV.int .i32 114]),(17,AV.bool true)] [(0,.cells [Lz v0,Lz v1,Lz v2,Iz v3,Iz v4,Iz v5,Iz v6]),(1,.it (ByteArray.mk #[116,114,117,115,116,102,108,111,119]) 2),(3,.grow (List.map (AV.int .u8) ([116] : List Int)))] 4 (by simp [F3]) (by simp [F3]) ?_;refine AW.seq fun K246 hK246=>?_;refine CT (by simp [F3]) ?_;refine AW.skip ?_;refine hK246 _ _ _ ?_;refine AW.block ?_;refine SW F3 [] [none,none] [16,17] [(7,AV.int .i32 114)] [] [] 4 ?_;refine RG [] [none,none,none,none,none,none] fun _ _ g r=>?_;have h5 : IntKind.wrap .u8 114=114:=by decide
  obtain ⟨h6,hF⟩:=AaJ hF;have h6_:=h6;try simp at h6_
  have F4:=A3 F3 h5 h6;try simp [F4]
  and_intros <;> first | exact GK g | apply r | omega | (simp [maxLen,F4] <;> omega)
  refine hK244 _ _ _ ?_;refine Can.weak [(1,AV.ptr 0 0),(5,AV.slc 4 0 1 ((([116] : List Int)++([114] : List Int)).length) false),(15,AV.ptr 1 0)] [(0,.cells [Lz v0,Lz v1,Lz v2,Iz v3,Iz v4,Iz v5,Iz v6]),(1,.it (ByteArray.mk #[116,114,117,115,116,102,108,111,119]) 2),(4,.grow (List.map (AV.int .u8) (([116] : List Int)++([114] : List Int))))] 5 (by simp [F4] <;> omega) (by simp [F4]) (by simp) ?_;refine Can.round fun K249 hK249=>?_;refine SQ [] [none,none] fun _ _ g r=>?_;try simp [F4]
  and_intros <;> first | exact GK g | apply r | omega | (simp [maxLen,F4] <;> omega)
  refine WK [(1,AV.ptr 0 0),(5,AV.slc 4 0 1 ((([116] : List Int)++([114] : List Int)).length) false),(15,AV.ptr 1 0),(16,AV.tup [AV.bool true,Iz 2,AV.int .i32 117]),(17,AV.bool true)] [(0,.cells [Lz v0,Lz v1,Lz v2,Iz v3,Iz v4,Iz v5,Iz v6]),(1,.it (ByteArray.mk #[116,114,117,115,116,102,108,111,119]) 3),(4,.grow (List.map (AV.int .u8) (([116] : List Int)++([114] : List Int))))] 5 (by simp [F4] <;> omega) (by simp [F4]) ?_;refine AW.seq fun K251 hK251=>?_;refine CT (by simp [F4]) ?_;refine AW.skip ?_;refine hK251 _ _ _ ?_;refine AW.block ?_;refine SQ [] [none,none] fun _ _ g r=>?_;try simp [F4]
  and_intros <;> first | exact GK g | apply r | omega | (simp [maxLen,F4] <;> omega)
  refine WK [(1,AV.ptr 0 0),(5,AV.slc 4 0 1 ((([116] : List Int)++([114] : List Int)).length) false),(7,AV.int .i32 117),(15,AV.ptr 1 0)] [(0,.cells [Lz v0,Lz v1,Lz v2,Iz v3,Iz v4,Iz v5,Iz v6]),(1,.it (ByteArray.mk #[116,114,117,115,116,102,108,111,119]) 3),(4,.grow (List.map (AV.int .u8) (([116] : List Int)++([114] : List Int))))] 5 (by simp [F4] <;> omega) (by simp [F4]) ?_;refine RG [] [none,none,none,none,none,none] fun _ _ g r=>?_;have h7 : IntKind.wrap .u8 117=117:=by decide
  obtain ⟨h8,hF⟩:=AaJ hF;have h8_:=h8;try simp at h8_
  have F5:=A3 F4 h7 h8;try simp [F5]
  and_intros <;> first | exact GK g | apply r | omega | (simp [maxLen,F5] <;> omega)
  refine hK249 _ _ _ ?_;refine Can.weak [(1,AV.ptr 0 0),(5,AV.slc 5 0 1 (((([116] : List Int)++([114] : List Int))++([117] : List Int)).length) false),(15,AV.ptr 1 0)] [(0,.cells [Lz v0,Lz v1,Lz v2,Iz v3,Iz v4,Iz v5,Iz v6]),(1,.it (ByteArray.mk #[116,114,117,115,116,102,108,111,119]) 3),(5,.grow (List.map (AV.int .u8) ((([116] : List Int)++([114] : List Int))++([117] : List Int))))] 6 (by simp [F5] <;> omega) (by simp [F5]) (by simp) ?_;refine Can.round fun K254 hK254=>?_;refine SQ [] [none,none] fun _ _ g r=>?_;try simp [F5]
  and_intros <;> first | exact GK g | apply r | omega | (simp [maxLen,F5] <;> omega)
  refine WK [(1,AV.ptr 0 0),(5,AV.slc 5 0 1 (((([116] : List Int)++([114] : List Int))++([117] : List Int)).length) false),(15,AV.ptr 1 0),(16,AV.tup [AV.bool true,Iz 3,AV.int .i32 115]),(17,AV.bool true)] [(0,.cells [Lz v0,Lz v1,Lz v2,Iz v3,Iz v4,Iz v5,Iz v6]),(1,.it (ByteArray.mk #[116,114,117,115,116,102,108,111,119]) 4),(5,.grow (List.map (AV.int .u8) ((([116] : List Int)++([114] : List Int))++([117] : List Int))))] 6 (by simp [F5] <;> omega) (by simp [F5]) ?_;refine AW.seq fun K256 hK256=>?_;refine CT (by simp [F5]) ?_;refine AW.skip ?_;refine hK256 _ _ _ ?_;refine AW.block ?_;refine SQ [] [none,none] fun _ _ g r=>?_;try simp [F5]
  and_intros <;> first | exact GK g | apply r | omega | (simp [maxLen,F5] <;> omega)
  refine WK [(1,AV.ptr 0 0),(5,AV.slc 5 0 1 (((([116] : List Int)++([114] : List Int))++([117] : List Int)).length) false),(7,AV.int .i32 115),(15,AV.ptr 1 0)] [(0,.cells [Lz v0,Lz v1,Lz v2,Iz v3,Iz v4,Iz v5,Iz v6]),(1,.it (ByteArray.mk #[116,114,117,115,116,102,108,111,119]) 4),(5,.grow (List.map (AV.int .u8) ((([116] : List Int)++([114] : List Int))++([117] : List Int))))] 6 (by simp [F5] <;> omega) (by simp [F5]) ?_;refine RG [] [none,none,none,none,none,none] fun _ _ g r=>?_;have h9 : IntKind.wrap .u8 115=115:=by decide
  obtain ⟨h10,hF⟩:=AaJ hF;have h10_:=h10;try simp at h10_
  have F6:=A3 F5 h9 h10;try simp [F6]
  and_intros <;> first | exact GK g | apply r | omega | (simp [maxLen,F6] <;> omega)
  refine hK254 _ _ _ ?_;refine Can.weak [(1,AV.ptr 0 0),(5,AV.slc 6 0 1 ((((([116] : List Int)++([114] : List Int))++([117] : List Int))++([115] : List Int)).length) false),(15,AV.ptr 1 0)] [(0,.cells [Lz v0,Lz v1,Lz v2,Iz v3,Iz v4,Iz v5,Iz v6]),(1,.it (ByteArray.mk #[116,114,117,115,116,102,108,111,119]) 4),(6,.grow (List.map (AV.int .u8) (((([116] : List Int)++([114] : List Int))++([117] : List Int))++([115] : List Int))))] 7 (by simp [F6] <;> omega) (by simp [F6]) (by simp) ?_;refine Can.round fun K259 hK259=>?_;refine SQ [] [none,none] fun _ _ g r=>?_;try simp [F6]
  and_intros <;> first | exact GK g | apply r | omega | (simp [maxLen,F6] <;> omega)
  refine WK [(1,AV.ptr 0 0),(5,AV.slc 6 0 1 ((((([116] : List Int)++([114] : List Int))++([117] : List Int))++([115] : List Int)).length) false),(15,AV.ptr 1 0),(16,AV.tup [AV.bool true,Iz 4,AV.int .i32 116]),(17,AV.bool true)] [(0,.cells [Lz v0,Lz v1,Lz v2,Iz v3,Iz v4,Iz v5,Iz v6]),(1,.it (ByteArray.mk #[116,114,117,115,116,102,108,111,119]) 5),(6,.grow (List.map (AV.int .u8) (((([116] : List Int)++([114] : List Int))++([117] : List Int))++([115] : List Int))))] 7 (by simp [F6] <;> omega) (by simp [F6]) ?_;refine AW.seq fun K261 hK261=>?_;refine CT (by simp [F6]) ?_;refine AW.skip ?_;refine hK261 _ _ _ ?_;refine AW.block ?_;refine SQ [] [none,none] fun _ _ g r=>?_;try simp [F6]
  and_intros <;> first | exact GK g | apply r | omega | (simp [maxLen,F6] <;> omega)
  refine WK [(1,AV.ptr 0 0),(5,AV.slc 6 0 1 ((((([116] : List Int)++([114] : List Int))++([117] : List Int))++([115] : List Int)).length) false),(7,AV.int .i32 116),(15,AV.ptr 1 0)] [(0,.cells [Lz v0,Lz v1,Lz v2,Iz v3,Iz v4,Iz v5,Iz v6]),(1,.it (ByteArray.mk #[116,114,117,115,116,102,108,111,119]) 5),(6,.grow (List.map (AV.int .u8) (((([116] : List Int)++([114] : List Int))++([117] : List Int))++([115] : List Int))))] 7 (by simp [F6] <;> omega) (by simp [F6]) ?_;refine RG [] [none,none,none,none,none,none] fun _ _ g r=>?_;have h11 : IntKind.wrap .u8 116=116:=by decide
  obtain ⟨h12,hF⟩:=AaJ hF;have h12_:=h12;try simp at h12_
  have F7:=A3 F6 h11 h12;try simp [F7]
  and_intros <;> first | exact GK g | apply r | omega | (simp [maxLen,F7] <;> omega)
  refine hK259 _ _ _ ?_;refine Can.weak [(1,AV.ptr 0 0),(5,AV.slc 7 0 1 (((((([116] : List Int)++([114] : List Int))++([117] : List Int))++([115] : List Int))++([116] : List Int)).length) false),(15,AV.ptr 1 0)] [(0,.cells [Lz v0,Lz v1,Lz v2,Iz v3,Iz v4,Iz v5,Iz v6]),(1,.it (ByteArray.mk #[116,114,117,115,116,102,108,111,119]) 5),(7,.grow (List.map (AV.int .u8) ((((([116] : List Int)++([114] : List Int))++([117] : List Int))++([115] : List Int))++([116] : List Int))))] 8 (by simp [F7] <;> omega) (by simp [F7]) (by simp) ?_;refine Can.round fun K264 hK264=>?_;refine SQ [] [none,none] fun _ _ g r=>?_;try simp [F7]
  and_intros <;> first | exact GK g | apply r | omega | (simp [maxLen,F7] <;> omega)
  refine WK [(1,AV.ptr 0 0),(5,AV.slc 7 0 1 (((((([116] : List Int)++([114] : List Int))++([117] : List Int))++([115] : List Int))++([116] : List Int)).length) false),(15,AV.ptr 1 0),(16,AV.tup [AV.bool true,Iz 5,AV.int .i32 102]),(17,AV.bool true)] [(0,.cells [Lz v0,Lz v1,Lz v2,Iz v3,Iz v4,Iz v5,Iz v6]),(1,.it (ByteArray.mk #[116,114,117,115,116,102,108,111,119]) 6),(7,.grow (List.map (AV.int .u8) ((((([116] : List Int)++([114] : List Int))++([117] : List Int))++([115] : List Int))++([116] : List Int))))] 8 (by simp [F7] <;> omega) (by simp [F7]) ?_;refine AW.seq fun K266 hK266=>?_;refine CT (by simp [F7]) ?_;refine AW.skip ?_;refine hK266 _ _ _ ?_;refine AW.block ?_;refine SQ [] [none,none] fun _ _ g r=>?_;try simp [F7]
  and_intros <;> first | exact GK g | apply r | omega | (simp [maxLen,F7] <;> omega)
  refine WK [(1,AV.ptr 0 0),(5,AV.slc 7 0 1 (((((([116] : List Int)++([114] : List Int))++([117] : List Int))++([115] : List Int))++([116] : List Int)).length) false),(7,AV.int .i32 102),(15,AV.ptr 1 0)] [(0,.cells [Lz v0,Lz v1,Lz v2,Iz v3,Iz v4,Iz v5,Iz v6]),(1,.it (ByteArray.mk #[116,114,117,115,116,102,108,111,119]) 6),(7,.grow (List.map (AV.int .u8) ((((([116] : List Int)++([114] : List Int))++([117] : List Int))++([115] : List Int))++([116] : List Int))))] 8 (by simp [F7] <;> omega) (by simp [F7]) ?_;refine RG [] [none,none,none,none,none,none] fun _ _ g r=>?_;have h13 : IntKind.wrap .u8 102=102:=by decide
  obtain ⟨h14,hF⟩:=AaJ hF;have h14_:=h14;try simp at h14_
  have F8:=A3 F7 h13 h14;try simp [F8]
  and_intros <;> first | exact GK g | apply r | omega | (simp [maxLen,F8] <;> omega)
  refine hK264 _ _ _ ?_;refine Can.weak [(1,AV.ptr 0 0),(5,AV.slc 8 0 1 ((((((([116] : List Int)++([114] : List Int))++([117] : List Int))++([115] : List Int))++([116] : List Int))++([102] : List Int)).length) false),(15,AV.ptr 1 0)] [(0,.cells [Lz v0,Lz v1,Lz v2,Iz v3,Iz v4,Iz v5,Iz v6]),(1,.it (ByteArray.mk #[116,114,117,115,116,102,108,111,119]) 6),(8,.grow (List.map (AV.int .u8) (((((([116] : List Int)++([114] : List Int))++([117] : List Int))++([115] : List Int))++([116] : List Int))++([102] : List Int))))] 9 (by simp [F8] <;> omega) (by simp [F8]) (by simp) ?_;refine Can.round fun K269 hK269=>?_;refine SQ [] [none,none] fun _ _ g r=>?_;try simp [F8]
  and_intros <;> first | exact GK g | apply r | omega | (simp [maxLen,F8] <;> omega)
  refine WK [(1,AV.ptr 0 0),(5,AV.slc 8 0 1 ((((((([116] : List Int)++([114] : List Int))++([117] : List Int))++([115] : List Int))++([116] : List Int))++([102] : List Int)).length) false),(15,AV.ptr 1 0),(16,AV.tup [AV.bool true,Iz 6,AV.int .i32 108]),(17,AV.bool true)] [(0,.cells [Lz v0,Lz v1,Lz v2,Iz v3,Iz v4,Iz v5,Iz v6]),(1,.it (ByteArray.mk #[116,114,117,115,116,102,108,111,119]) 7),(8,.grow (List.map (AV.int .u8) (((((([116] : List Int)++([114] : List Int))++([117] : List Int))++([115] : List Int))++([116] : List Int))++([102] : List Int))))] 9 (by simp [F8] <;> omega) (by simp [F8]) ?_;refine AW.seq fun K271 hK271=>?_;refine CT (by simp [F8]) ?_;refine AW.skip ?_;refine hK271 _ _ _ ?_;refine AW.block ?_;refine SQ [] [none,none] fun _ _ g r=>?_;try simp [F8]
  and_intros <;> first | exact GK g | apply r | omega | (simp [maxLen,F8] <;> omega)
  refine WK [(1,AV.ptr 0 0),(5,AV.slc 8 0 1 ((((((([116] : List Int)++([114] : List Int))++([117] : List Int))++([115] : List Int))++([116] : List Int))++([102] : List Int)).length) false),(7,AV.int .i32 108),(15,AV.ptr 1 0)] [(0,.cells [Lz v0,Lz v1,Lz v2,Iz v3,Iz v4,Iz v5,Iz v6]),(1,.it (ByteArray.mk #[116,114,117,115,116,102,108,111,119]) 7),(8,.grow (List.map (AV.int .u8) (((((([116] : List Int)++([114] : List Int))++([117] : List Int))++([115] : List Int))++([116] : List Int))++([102] : List Int))))] 9 (by simp [F8] <;> omega) (by simp [F8]) ?_;refine RG [] [none,none,none,none,none,none] fun _ _ g r=>?_;have h15 : IntKind.wrap .u8 108=108:=by decide
  obtain ⟨h16,hF⟩:=AaJ hF;have h16_:=h16;try simp at h16_
  have F9:=A3 F8 h15 h16;try simp [F9]
  and_intros <;> first | exact GK g | apply r | omega | (simp [maxLen,F9] <;> omega)
  refine hK269 _ _ _ ?_;refine Can.weak [(1,AV.ptr 0 0),(5,AV.slc 9 0 1 (((((((([116] : List Int)++([114] : List Int))++([117] : List Int))++([115] : List Int))++([116] : List Int))++([102] : List Int))++([108] : List Int)).length) false),(15,AV.ptr 1 0)] [(0,.cells [Lz v0,Lz v1,Lz v2,Iz v3,Iz v4,Iz v5,Iz v6]),(1,.it (ByteArray.mk #[116,114,117,115,116,102,108,111,119]) 7),(9,.grow (List.map (AV.int .u8) ((((((([116] : List Int)++([114] : List Int))++([117] : List Int))++([115] : List Int))++([116] : List Int))++([102] : List Int))++([108] : List Int))))] 10 (by simp [F9] <;> omega) (by simp [F9]) (by simp) ?_;refine Can.round fun K274 hK274=>?_;refine SQ [] [none,none] fun _ _ g r=>?_;try simp [F9]
  and_intros <;> first | exact GK g | apply r | omega | (simp [maxLen,F9] <;> omega)
  refine WK [(1,AV.ptr 0 0),(5,AV.slc 9 0 1 (((((((([116] : List Int)++([114] : List Int))++([117] : List Int))++([115] : List Int))++([116] : List Int))++([102] : List Int))++([108] : List Int)).length) false),(15,AV.ptr 1 0),(16,AV.tup [AV.bool true,Iz 7,AV.int .i32 111]),(17,AV.bool true)] [(0,.cells [Lz v0,Lz v1,Lz v2,Iz v3,Iz v4,Iz v5,Iz v6]),(1,.it (ByteArray.mk #[116,114,117,115,116,102,108,111,119]) 8),(9,.grow (List.map (AV.int .u8) ((((((([116] : List Int)++([114] : List Int))++([117] : List Int))++([115] : List Int))++([116] : List Int))++([102] : List Int))++([108] : List Int))))] 10 (by simp [F9] <;> omega) (by simp [F9]) ?_;refine AW.seq fun K276 hK276=>?_;refine CT (by simp [F9]) ?_;refine AW.skip ?_;refine hK276 _ _ _ ?_;refine AW.block ?_;refine SQ [] [none,none] fun _ _ g r=>?_;try simp [F9]
  and_intros <;> first | exact GK g | apply r | omega | (simp [maxLen,F9] <;> omega)
  refine WK [(1,AV.ptr 0 0),(5,AV.slc 9 0 1 (((((((([116] : List Int)++([114] : List Int))++([117] : List Int))++([115] : List Int))++([116] : List Int))++([102] : List Int))++([108] : List Int)).length) false),(7,AV.int .i32 111),(15,AV.ptr 1 0)] [(0,.cells [Lz v0,Lz v1,Lz v2,Iz v3,Iz v4,Iz v5,Iz v6]),(1,.it (ByteArray.mk #[116,114,117,115,116,102,108,111,119]) 8),(9,.grow (List.map (AV.int .u8) ((((((([116] : List Int)++([114] : List Int))++([117] : List Int))++([115] : List Int))++([116] : List Int))++([102] : List Int))++([108] : List Int))))] 10 (by simp [F9] <;> omega) (by simp [F9]) ?_;refine RG [] [none,none,none,none,none,none] fun _ _ g r=>?_;have h17 : IntKind.wrap .u8 111=111:=by decide
  obtain ⟨h18,hF⟩:=AaJ hF;have h18_:=h18;try simp at h18_
  have F10:=A3 F9 h17 h18;try simp [F10]
  and_intros <;> first | exact GK g | apply r | omega | (simp [maxLen,F10] <;> omega)
  refine hK274 _ _ _ ?_;refine Can.weak [(1,AV.ptr 0 0),(5,AV.slc 10 0 1 ((((((((([116] : List Int)++([114] : List Int))++([117] : List Int))++([115] : List Int))++([116] : List Int))++([102] : List Int))++([108] : List Int))++([111] : List Int)).length) false),(15,AV.ptr 1 0)] [(0,.cells [Lz v0,Lz v1,Lz v2,Iz v3,Iz v4,Iz v5,Iz v6]),(1,.it (ByteArray.mk #[116,114,117,115,116,102,108,111,119]) 8),(10,.grow (List.map (AV.int .u8) (((((((([116] : List Int)++([114] : List Int))++([117] : List Int))++([115] : List Int))++([116] : List Int))++([102] : List Int))++([108] : List Int))++([111] : List Int))))] 11 (by simp [F10] <;> omega) (by simp [F10]) (by simp) ?_;refine Can.round fun K279 hK279=>?_;refine SQ [] [none,none] fun _ _ g r=>?_;try simp [F10]
  and_intros <;> first | exact GK g | apply r | omega | (simp [maxLen,F10] <;> omega)
  refine WK [(1,AV.ptr 0 0),(5,AV.slc 10 0 1 ((((((((([116] : List Int)++([114] : List Int))++([117] : List Int))++([115] : List Int))++([116] : List Int))++([102] : List Int))++([108] : List Int))++([111] : List Int)).length) false),(15,AV.ptr 1 0),(16,AV.tup [AV.bool true,Iz 8,AV.int .i32 119]),(17,AV.bool true)] [(0,.cells [Lz v0,Lz v1,Lz v2,Iz v3,Iz v4,Iz v5,Iz v6]),(1,.it (ByteArray.mk #[116,114,117,115,116,102,108,111,119]) 9),(10,.grow (List.map (AV.int .u8) (((((((([116] : List Int)++([114] : List Int))++([117] : List Int))++([115] : List Int))++([116] : List Int))++([102] : List Int))++([108] : List Int))++([111] : List Int))))] 11 (by simp [F10] <;> omega) (by simp [F10]) ?_;refine AW.seq fun K281 hK281=>?_;refine CT (by simp [F10]) ?_;refine AW.skip ?_;refine hK281 _ _ _ ?_;refine AW.block ?_;refine SQ [] [none,none] fun _ _ g r=>?_;try simp [F10]
  and_intros <;> first | exact GK g | apply r | omega | (simp [maxLen,F10] <;> omega)
  refine WK [(1,AV.ptr 0 0),(5,AV.slc 10 0 1 ((((((((([116] : List Int)++([114] : List Int))++([117] : List Int))++([115] : List Int))++([116] : List Int))++([102] : List Int))++([108] : List Int))++([111] : List Int)).length) false),(7,AV.int .i32 119),(15,AV.ptr 1 0)] [(0,.cells [Lz v0,Lz v1,Lz v2,Iz v3,Iz v4,Iz v5,Iz v6]),(1,.it (ByteArray.mk #[116,114,117,115,116,102,108,111,119]) 9),(10,.grow (List.map (AV.int .u8) (((((((([116] : List Int)++([114] : List Int))++([117] : List Int))++([115] : List Int))++([116] : List Int))++([102] : List Int))++([108] : List Int))++([111] : List Int))))] 11 (by simp [F10] <;> omega) (by simp [F10]) ?_;refine RG [] [none,none,none,none,none,none] fun _ _ g r=>?_;have h19 : IntKind.wrap .u8 119=119:=by decide
  obtain ⟨h20,hF⟩:=AaJ hF;have h20_:=h20;try simp at h20_
  have F11:=A3 F10 h19 h20;try simp [F11]
  and_intros <;> first | exact GK g | apply r | omega | (simp [maxLen,F11] <;> omega)
  refine hK279 _ _ _ ?_;refine Can.weak [(1,AV.ptr 0 0),(5,AV.slc 11 0 1 (((((((((([116] : List Int)++([114] : List Int))++([117] : List Int))++([115] : List Int))++([116] : List Int))++([102] : List Int))++([108] : List Int))++([111] : List Int))++([119] : List Int)).length) false),(15,AV.ptr 1 0)] [(0,.cells [Lz v0,Lz v1,Lz v2,Iz v3,Iz v4,Iz v5,Iz v6]),(1,.it (ByteArray.mk #[116,114,117,115,116,102,108,111,119]) 9),(11,.grow (List.map (AV.int .u8) ((((((((([116] : List Int)++([114] : List Int))++([117] : List Int))++([115] : List Int))++([116] : List Int))++([102] : List Int))++([108] : List Int))++([111] : List Int))++([119] : List Int))))] 12 (by simp [F11] <;> omega) (by simp [F11]) (by simp) ?_;refine Can.round fun K284 hK284=>?_;refine SQ [] [none,none] fun _ _ g r=>?_;try simp [F11]
  and_intros <;> first | exact GK g | apply r | omega | (simp [maxLen,F11] <;> omega)
  refine WK [(1,AV.ptr 0 0),(5,AV.slc 11 0 1 (((((((((([116] : List Int)++([114] : List Int))++([117] : List Int))++([115] : List Int))++([116] : List Int))++([102] : List Int))++([108] : List Int))++([111] : List Int))++([119] : List Int)).length) false),(15,AV.ptr 1 0),(16,AV.tup [AV.bool false]),(17,AV.bool false)] [(0,.cells [Lz v0,Lz v1,Lz v2,Iz v3,Iz v4,Iz v5,Iz v6]),(1,.it (ByteArray.mk #[116,114,117,115,116,102,108,111,119]) 9),(11,.grow (List.map (AV.int .u8) ((((((((([116] : List Int)++([114] : List Int))++([117] : List Int))++([115] : List Int))++([116] : List Int))++([102] : List Int))++([108] : List Int))++([111] : List Int))++([119] : List Int))))] 12 (by simp [F11] <;> omega) (by simp [F11]) ?_;refine AW.seq fun K286 hK286=>?_;refine CF (by simp [F11]) ?_;refine AW.exit ?_;try simp
  refine hK237 _ _ _ ?_;refine AW.seq fun K321 hK321=>?_;refine SQ [] [none,none,none,none,none,none,none,none,none,none,none,none,none,none,none,none,none,none,none,none,none] fun _ _ g r=>?_;try simp [F11]
  and_intros <;> first | exact GK g | apply r | omega | (simp [maxLen,F11] <;> omega)
  refine WK [(5,AV.slc 11 0 1 (((((((((([116] : List Int)++([114] : List Int))++([117] : List Int))++([115] : List Int))++([116] : List Int))++([102] : List Int))++([108] : List Int))++([111] : List Int))++([119] : List Int)).length) false),(42,AV.lst false true [Lz v0,Lz v1,Lz v2,AV.lst false true (List.map (AV.int .i64) ([v3,v4,v5,v6] : List Int))]),(43,Iz (([v0,v1,v2,([v3,v4,v5,v6] : List Int)] : List (List Int)).length : Int)),(44,Iz 0)] [(11,.grow (List.map (AV.int .u8) ((((((((([116] : List Int)++([114] : List Int))++([117] : List Int))++([115] : List Int))++([116] : List Int))++([102] : List Int))++([108] : List Int))++([111] : List Int))++([119] : List Int))))] 12 (by simp [F11] <;> omega) (by simp [F11]) ?_;refine AW.flg [(42,AV.lst false true (List.map (sl (AV.int .i64)) ([v0,v1,v2,([v3,v4,v5,v6] : List Int)] : List (List Int))))] [] ⟨(.els (.cons (.same _) (.cons (.same _) (.cons (.same _) (.cons (.lst (by simp)) .nil))))),trivial⟩ trivial (by simp) ?_;refine AW.block ?_;refine RM h0 [(0,11)] [(5,AV.slc 0 0 1 (((((((((([116] : List Int)++([114] : List Int))++([117] : List Int))++([115] : List Int))++([116] : List Int))++([102] : List Int))++([108] : List Int))++([111] : List Int))++([119] : List Int)).length) false),(42,AV.lst false true (List.map (sl (AV.int .i64)) ([v0,v1,v2,([v3,v4,v5,v6] : List Int)] : List (List Int)))),(43,Iz (([v0,v1,v2,([v3,v4,v5,v6] : List Int)] : List (List Int)).length : Int)),(44,Iz 0)] [(0,.grow (List.map (AV.int .u8) ((((((((([116] : List Int)++([114] : List Int))++([117] : List Int))++([115] : List Int))++([116] : List Int))++([102] : List Int))++([108] : List Int))++([111] : List Int))++([119] : List Int))))] 1 (by simp [F11]) (by simp [F11]) ?_;refine AW.loopF (α:=(Int×(List Int))) (fun n (v10,v11)=>Aay.L1 k v0 v1 v2 v3 v4 v5 v6 n v10 v11=some (v7,v8)) (fun (v10,v11)=>[(5,AV.slc 0 0 1 v11.length false),(42,AV.lst false true (List.map (sl (AV.int .i64)) ([v0,v1,v2,([v3,v4,v5,v6] : List Int)] : List (List Int)))),(43,Iz (([v0,v1,v2,([v3,v4,v5,v6] : List Int)] : List (List Int)).length : Int)),(44,Iz v10)]) (fun (v10,v11)=>[(0,.grow (List.map (AV.int .u8) v11))]) 1 k ((0,(((((((([116] : List Int)++([114] : List Int))++([117] : List Int))++([115] : List Int))++([116] : List Int))++([102] : List Int))++([108] : List Int))++([111] : List Int))++([119] : List Int))) hF (by simp [F11]) (by simp [F11]) (by simp) ?_;rintro (_|n1) ⟨v10,v11⟩ hF K347 hK347
  ·try dsimp only at hF
   rw [Aay.L1] at hF; cases hF
  try dsimp only at hF
  rw [Aay.L1] at hF;refine SW F11 [] [none] [] [(45,AV.bool (decide (v10<(([v0,v1,v2,([v3,v4,v5,v6] : List Int)] : List (List Int)).length : Int))))] [] [] 1 ?_;refine AW.seq fun K349 hK349=>?_;by_cases h21 : v10<(([v0,v1,v2,([v3,v4,v5,v6] : List Int)] : List (List Int)).length : Int)
  ·replace hF:=AaN h21 hF;have h21_:=h21;try simp at h21_
   have F12:=A3 F11 h21 h21_;refine CT (by simp [F12] <;> omega) ?_;refine AW.skip ?_;refine hK349 _ _ _ ?_;refine AW.seq fun K352 hK352=>?_;refine AW.block ?_;refine SR [] [none,none,none] fun _ _ g r=>?_;obtain ⟨v12,h22,h23,h24,hF⟩:=AaM hF;have h24_:=Aaf h24;try simp at h24_
   have h23_:=h23;try simp at h23_
   have h24__:=Aaf (AiO ((sl (AV.int .i64))) h24);try simp at h24__
   have F13:=A7 F12 h22 h23 h24 h24_ h23_ h24__;refine TL F13 g r [] [(9,Lz v12)] [] [] 1 ?_;refine RG [] [none,none,none,none] fun _ _ g r=>?_;try simp [F13]
   and_intros
   try any_goals first | omega | (simp [maxLen,F13] <;> omega)
   obtain ⟨v13,h25,hF⟩:=AaH hF;refine Aa6 (AfM k _ _ _ h25) (by simp) [0] [] [0] rfl (.cons (.same (by simp [F13])) (.cons (.same (by simp [F13])) .nil)) (by simp [F13]) (by decide) (by simp) (by simp) (.inl rfl) (by simp) (by simp) ?_;try simp [F13]
   and_intros <;> first | exact GK g | apply r | omega | (simp [maxLen,F13] <;> omega)
   refine hK352 _ _ _ ?_;refine WK [(5,AV.slc 1 0 1 v13.length false),(42,AV.lst false true (List.map (sl (AV.int .i64)) ([v0,v1,v2,([v3,v4,v5,v6] : List Int)] : List (List Int)))),(43,Iz (([v0,v1,v2,([v3,v4,v5,v6] : List Int)] : List (List Int)).length : Int)),(44,Iz v10)] [(1,.grow (List.map (AV.int .u8) v13))] 2 (by simp [F13]) (by simp [F13]) ?_;refine RG [] [none,none] fun _ _ g r=>?_;try simp [F13]
   and_intros <;> first | exact GK g | apply r | omega | (simp [maxLen,F13] <;> omega)
   refine hK347 _ _ _ ?_;refine RN h0 [(0,1)] [(5,AV.slc 0 0 1 v13.length false),(42,AV.lst false true (List.map (sl (AV.int .i64)) ([v0,v1,v2,([v3,v4,v5,v6] : List Int)] : List (List Int)))),(43,Iz (([v0,v1,v2,([v3,v4,v5,v6] : List Int)] : List (List Int)).length : Int)),(44,Iz (IntKind.wrap .i64 (v10+1)))] [(0,.grow (List.map (AV.int .u8) v13))] 1 (by simp [F13]) (by simp [F13]) ?_;exact NX (k':=n1) ((IntKind.wrap .i64 (v10+1),v13)) hF (by simp [F13]) (by simp [F13])
  ·replace hF:=AaO h21 hF;have h21_:=h21;try simp at h21_
   have F14:=A3 F11 h21 h21_;refine CF (by simp [F14] <;> omega) ?_;refine AW.exit ?_;try simp
   refine hK321 _ _ _ ?_;refine WK [(5,AV.slc 0 0 1 v11.length false)] [(0,.grow (List.map (AV.int .u8) v11))] 1 (by simp [F14]) (by simp [F14]) ?_;refine AW.frz 0 (o := .grow (List.map (AV.int .u8) v11)) (by simp [F14]) rfl [(5,Lb v11)] [] ⟨(.l (by simp) (by simp) (by simp) (by simp)),trivial⟩ trivial ?_;refine WK [(5,Lb v11)] [] 1 (by simp [F14]) (by simp [F14]) ?_;obtain ⟨v14,h26,hF⟩:=AaH hF;refine CL F14 [] [none,none,none,none] (Adk k _ _ h26) [5] [(2,AV.str v14),(3,Iz 0)] [] [] 1 ?_;simp only [Option.some.injEq,Prod.mk.injEq] at hF;obtain ⟨e0,e1⟩:=hF;subst e0 e1;refine AW.ret (hQ _ _ _ ?_ (AaE ?_)).1
   ·simp [Try.f15,F14]
   ·simp [F14]
theorem Agf (k : Nat) (v0 : (List Int)) (v1 : Bool) (hF : Aaw k v0=some v1) :
 AbA Try.prog 37 [AV.lst false false (List.map (AV.int .i64) v0)] [] (AV.bool v1) []:=by
 unfold Aaw at hF;refine EN Try.func37 ?_;intro c0 w0 Q h0 hQ
 refine WK [(0,Lz v0)] [] 0 (by simp) (by simp) ?_;refine SW trivial [] [none] [] [] [] [] 0 ?_;refine AW.seq fun K115 hK115=>?_;refine SR [] [none,none,none,none,some (7,false),some (7,false),some (7,false),none] fun _ _ g r=>?_;by_cases h1 : (v0.length : Int)=0
 ·replace hF:=AaN h1 hF;have h1q : (v0.length : Int)=0:=h1;have h1_:=AbY h1q;have h1__:=AbX h1q;have F1:=A3 h1_ h1__ h1q;refine TL F1 g r [] [(11,AV.bool true)] [] [] 0 ?_;refine CT (by simp [F1]) ?_;refine SW F1 [] [none] [0,11] [(2,AV.bool false)] [] [] 0 ?_;simp only [Option.some.injEq] at hF;subst hF;refine AW.ret (hQ _ _ _ ?_ (AaE ?_)).1
  ·simp [Try.f37,F1]
  ·simp [F1]
 ·replace hF:=AaO h1 hF;have h1_:=AbR h1;have h1__:=AbW h1;have F2:=A3 h1 h1_ h1__;refine TL F2 g r [] [(11,AV.bool (decide (64<(v0.length : Int))))] [] [] 0 ?_;by_cases h2 : 64<(v0.length : Int)
  ·replace hF:=AaN h2 hF;have h2_:=h2;try simp at h2_
   have F3:=A3 F2 h2 h2_;refine CT (by simp [F3] <;> omega) ?_;refine SW F3 [] [none] [0,11] [(2,AV.bool false)] [] [] 0 ?_;simp only [Option.some.injEq] at hF;subst hF;refine AW.ret (hQ _ _ _ ?_ (AaE ?_)).1
   ·simp [Try.f37,F3]
   ·simp [F3]
  ·replace hF:=AaO h2 hF;have h2_:=h2;try simp at h2_
   have F4:=A3 F2 h2 h2_;refine CF (by simp [F4] <;> omega) ?_;refine AW.skip ?_;refine hK115 _ _ _ ?_;refine AW.seq fun K169 hK169=>?_;refine SW F4 [] [none] [11] [(3,Iz 0)] [] [] 0 ?_;refine AW.block ?_;refine AW.loopF (α:=Int) (fun n v2=>Aaw.L1 k v0 n v2=some v1) (fun v2=>[(0,Lz v0),(3,Iz v2)]) (fun v2=>[]) 0 k (0) hF (by simp [F4]) (by simp [F4]) (by simp) ?_;rintro (_|n1) v2 hF K206 hK206
   ·try dsimp only at hF
    rw [Aaw.L1] at hF; cases hF
   try dsimp only at hF
   rw [Aaw.L1] at hF;refine AW.seq fun K208 hK208=>?_;refine SW F4 [] [none,none,none,none] [] [(15,AV.bool (decide (v2<(v0.length : Int))))] [] [] 0 ?_;by_cases h3 : v2<(v0.length : Int)
   ·replace hF:=AaN h3 hF;have h3_:=h3;try simp at h3_
    have F5:=A3 F4 h3 h3_;refine CT (by simp [F5] <;> omega) ?_;refine AW.skip ?_;refine hK208 _ _ _ ?_;refine AW.midF (α:=Unit) (fun _=>Aaw.J2 k v2 (fun v2_=>Aaw.L1 k v0 n1 v2_)=some v1) (fun _=>[(0,Lz v0),(3,Iz v2)]) (fun _=>[]) 0 (fun K215 hK215=>?_) ?_
    ·refine AW.block ?_;refine SR [] [none,none,none,none,none,none,some (23,false),some (23,false),some (23,false),some (23,false),some (23,false),none,none,some (30,false),some (30,false),some (30,false),some (33,true),some (33,true),some (33,true),some (33,true),some (33,true),some (33,true),some (33,true),some (33,true),some (33,true),some (33,true),some (30,false),none] fun _ _ g r=>?_;obtain ⟨v3,h4,h5,h6,hF⟩:=AaM hF;have h6_:=Aaf h6;try simp at h6_
     have h5_:=h5;try simp at h5_
     by_cases h7 : v3<0
     ·replace hF:=AaN h7 hF;have h7_:=h7;try simp at h7_
      have F6:=A8 F5 h4 h5 h6 h6_ h5_ h7 h7_;refine TL F6 g r [] [(45,AV.bool true)] [] [] 0 ?_;refine CT (by simp [F6]) ?_;refine SW F6 [] [none] [0,3,45] [(2,AV.bool false)] [] [] 0 ?_;simp only [Option.some.injEq] at hF;subst hF;refine AW.ret (hQ _ _ _ ?_ (AaE ?_)).1
      ·simp [Try.f37,F6]
      ·simp [F6]
     ·replace hF:=AaO h7 hF;have h7_:=h7;try simp at h7_
      by_cases h8 : 64≤v3
      ·replace hF:=AaN h8 hF;have h8_:=h8;try simp at h8_
       have F7:=A9 F5 h4 h5 h6 h6_ h5_ h7 h7_ (A2 h8 h8_);refine TL F7 g r [] [(45,AV.bool true)] [] [] 0 ?_;refine CT (by simp [F7]) ?_;refine SW F7 [] [none] [0,3,45] [(2,AV.bool false)] [] [] 0 ?_;simp only [Option.some.injEq] at hF;subst hF;refine AW.ret (hQ _ _ _ ?_ (AaE ?_)).1
       ·simp [Try.f37,F7]
       ·simp [F7]
      ·replace hF:=AaO h8 hF;have h8_:=h8;try simp at h8_
       by_cases h9 : 0<v2
       ·replace hF:=AaN h9 hF;have h9_:=h9;try simp at h9_
        obtain ⟨v4,h10,h11,h12,hF⟩:=AaM hF;have h12_:=Aaf h12;try simp at h12_
        have h11_:=h11;try simp at h11_
        have F8:=A9 F5 h4 h5 h6 h6_ h5_ h7 h7_ (A9 h8 h8_ h9 h9_ h10 h11 h12 h12_ h11_);refine TL F8 g r [] [(45,AV.bool (decide (v3≤v4)))] [] [] 0 ?_;by_cases h13 : v3≤v4
        ·replace hF:=AaN h13 hF;have h13_:=h13;try simp at h13_
         have F9:=A3 F8 h13 h13_;refine CT (by simp [F9] <;> omega) ?_;refine SW F9 [] [none] [0,3,45] [(2,AV.bool false)] [] [] 0 ?_;simp only [Option.some.injEq] at hF;subst hF;refine AW.ret (hQ _ _ _ ?_ (AaE ?_)).1
         ·simp [Try.f37,F9]
         ·simp [F9]
        ·replace hF:=AaO h13 hF;have h13_:=h13;try simp at h13_
         have F10:=A3 F8 h13 h13_;refine CF (by simp [F10] <;> omega) ?_;refine AW.skip ?_;refine hK215 _ _ _ ?_;exact JN (()) hF (by simp [F10]) (by simp [F10])
       ·replace hF:=AaO h9 hF;have h9_:=h9;try simp at h9_
        have F11:=A9 F5 h4 h5 h6 h6_ h5_ h7 h7_ (A4 h8 h8_ h9 h9_);refine TL F11 g r [] [(45,AV.bool false)] [] [] 0 ?_;refine CF (by simp [F11]) ?_;refine AW.skip ?_;refine hK215 _ _ _ ?_;exact JN (()) hF (by simp [F11]) (by simp [F11])
    ·rintro ⟨⟩ hF
     try dsimp only at hF
     unfold Aaw.J2 at hF;refine RG [] [none,none,none] fun _ _ g r=>?_;try simp [F5]
     and_intros <;> first | exact GK g | apply r | omega | (simp [maxLen,F5] <;> omega)
     refine hK206 _ _ _ ?_;exact NX (k':=n1) (IntKind.wrap .i64 (v2+1)) hF (by simp [F5]) (by simp [F5])
   ·replace hF:=AaO h3 hF;have h3_:=h3;try simp at h3_
    have F12:=A3 F4 h3 h3_;refine CF (by simp [F12] <;> omega) ?_;refine AW.exit ?_;try simp
    refine hK169 _ _ _ ?_;refine SW F12 [] [none] [0,3] [(2,AV.bool true)] [] [] 0 ?_;simp only [Option.some.injEq] at hF;subst hF;refine AW.ret (hQ _ _ _ ?_ (AaE ?_)).1
    ·simp [Try.f37,F12]
    ·simp [F12]
theorem Afb (k : Nat) (v0 : (List Int)) (v1 : Int) (v2 : Bool) (hF : Aa4 k v0 v1=some v2) :
 AbA Try.prog 108 [AV.lst false false (List.map (AV.int .i64) v0),AV.int .i64 v1] [] (AV.bool v2) []:=by
 unfold Aa4 at hF;refine EN Try.func108 ?_;intro c0 w0 Q h0 hQ
 refine WK [(0,Lz v0),(1,Iz v1)] [] 0 (by simp) (by simp) ?_;refine SW trivial [] [none] [] [] [] [] 0 ?_;refine AW.seq fun K155 hK155=>?_;refine SW trivial [] [none] [] [(5,Iz 0)] [] [] 0 ?_;refine AW.block ?_;refine AW.loopF (α:=Int) (fun n v3=>Aa4.L1 k v0 v1 n v3=some v2) (fun v3=>[(0,Lz v0),(1,Iz v1),(5,Iz v3)]) (fun v3=>[]) 0 k (0) hF (by simp) (by simp) (by simp) ?_;rintro (_|n1) v3 hF K192 hK192
 ·try dsimp only at hF
  rw [Aa4.L1] at hF; cases hF
 try dsimp only at hF
 rw [Aa4.L1] at hF;refine AW.seq fun K194 hK194=>?_;refine SW trivial [] [none,none,none,none] [] [(9,AV.bool (decide (v3<(v0.length : Int))))] [] [] 0 ?_;by_cases h1 : v3<(v0.length : Int)
 ·replace hF:=AaN h1 hF;have h1_:=h1;try simp at h1_
  refine CT (by simp [h1,h1_] <;> omega) ?_;refine AW.skip ?_;refine hK194 _ _ _ ?_;refine AW.midF (α:=Unit) (fun _=>Aa4.J2 k v3 (fun v3_=>Aa4.L1 k v0 v1 n1 v3_)=some v2) (fun _=>[(0,Lz v0),(1,Iz v1),(5,Iz v3)]) (fun _=>[]) 0 (fun K201 hK201=>?_) ?_
  ·refine AW.block ?_;refine SR [] [none,none,none,none,none,none,some (17,false),some (17,false),some (17,false),some (17,false),some (17,false),some (17,false),none,none,some (25,false),some (25,false),some (25,false),some (28,true),some (28,true),some (28,true),some (28,true),some (28,true),some (28,true),some (28,true),some (28,true),some (28,true),some (28,true),some (25,false),none] fun _ _ g r=>?_;obtain ⟨v4,h2,h3,h4,hF⟩:=AaM hF;have h4_:=Aaf h4;try simp at h4_
   have h3_:=h3;try simp at h3_
   by_cases h5 : v4<0
   ·replace hF:=AaN h5 hF;have h5_:=h5;try simp at h5_
    have F1:=A9 h1 h1_ h2 h3 h4 h4_ h3_ h5 h5_;refine TL F1 g r [] [(40,AV.bool true)] [] [] 0 ?_;refine CT (by simp [F1]) ?_;refine SW F1 [] [none] [0,1,5,40] [(4,AV.bool false)] [] [] 0 ?_;simp only [Option.some.injEq] at hF;subst hF;refine AW.ret (hQ _ _ _ ?_ (AaE ?_)).1
    ·simp [Try.f108,F1]
    ·simp [F1]
   ·replace hF:=AaO h5 hF;have h5_:=h5;try simp at h5_
    by_cases h6 : v1≤v4
    ·replace hF:=AaN h6 hF;have h6_:=h6;try simp at h6_
     have F2:=A9 h1 h1_ h2 h3 h4 h4_ h3_ h5 (A3 h5_ h6 h6_);refine TL F2 g r [] [(40,AV.bool true)] [] [] 0 ?_;refine CT (by simp [F2]) ?_;refine SW F2 [] [none] [0,1,5,40] [(4,AV.bool false)] [] [] 0 ?_;simp only [Option.some.injEq] at hF;subst hF;refine AW.ret (hQ _ _ _ ?_ (AaE ?_)).1
     ·simp [Try.f108,F2]
     ·simp [F2]
    ·replace hF:=AaO h6 hF;have h6_:=h6;try simp at h6_
     by_cases h7 : 0<v3
     ·replace hF:=AaN h7 hF;have h7_:=h7;try simp at h7_
      obtain ⟨v5,h8,h9,h10,hF⟩:=AaM hF;have h10_:=Aaf h10;try simp at h10_
      have h9_:=h9;try simp at h9_
      have F3:=A9 h1 h1_ h2 h3 h4 h4_ h3_ h5 (A9 h5_ h6 h6_ h7 h7_ h8 h9 h10 (A2 h10_ h9_));refine TL F3 g r [] [(40,AV.bool (decide (v4≤v5)))] [] [] 0 ?_;by_cases h11 : v4≤v5
      ·replace hF:=AaN h11 hF;have h11_:=h11;try simp at h11_
       have F4:=A3 F3 h11 h11_;refine CT (by simp [F4] <;> omega) ?_;refine SW F4 [] [none] [0,1,5,40] [(4,AV.bool false)] [] [] 0 ?_;simp only [Option.some.injEq] at hF;subst hF;refine AW.ret (hQ _ _ _ ?_ (AaE ?_)).1
       ·simp [Try.f108,F4]
       ·simp [F4]
      ·replace hF:=AaO h11 hF;have h11_:=h11;try simp at h11_
       have F5:=A3 F3 h11 h11_;refine CF (by simp [F5] <;> omega) ?_;refine AW.skip ?_;refine hK201 _ _ _ ?_;exact JN (()) hF (by simp [F5]) (by simp [F5])
     ·replace hF:=AaO h7 hF;have h7_:=h7;try simp at h7_
      have F6:=A9 h1 h1_ h2 h3 h4 h4_ h3_ h5 (A5 h5_ h6 h6_ h7 h7_);refine TL F6 g r [] [(40,AV.bool false)] [] [] 0 ?_;refine CF (by simp [F6]) ?_;refine AW.skip ?_;refine hK201 _ _ _ ?_;exact JN (()) hF (by simp [F6]) (by simp [F6])
  ·rintro ⟨⟩ hF
   try dsimp only at hF
   unfold Aa4.J2 at hF;refine RG [] [none,none,none] fun _ _ g r=>?_;try simp [h1,h1_]
   and_intros <;> first | exact GK g | apply r | omega | (simp [h1,h1_,maxLen] <;> omega)
   refine hK192 _ _ _ ?_;exact NX (k':=n1) (IntKind.wrap .i64 (v3+1)) hF (by simp [h1,h1_]) (by simp [h1,h1_])
 ·replace hF:=AaO h1 hF;have h1_:=h1;try simp at h1_
  refine CF (by simp [h1,h1_] <;> omega) ?_;refine AW.exit ?_;try simp
  refine hK155 _ _ _ ?_;refine SW (A2 h1 h1_) [] [none] [0,1,5] [(4,AV.bool true)] [] [] 0 ?_;simp only [Option.some.injEq] at hF;subst hF;refine AW.ret (hQ _ _ _ ?_ (AaE ?_)).1
  ·simp [Try.f108,h1,h1_]
  ·simp [h1,h1_]
theorem AdW (k : Nat) (v0 : (List Int)) (v1 : Int) (v2 : Bool) (hF : Abo k v0 v1=some v2) :
 AbA Try.prog 110 [AV.lst false false (List.map (AV.int .i64) v0),AV.int .i64 v1] [] (AV.bool v2) []:=by
 unfold Abo at hF;refine EN Try.func110 ?_;intro c0 w0 Q h0 hQ
 refine WK [(0,Lz v0),(1,Iz v1)] [] 0 (by simp) (by simp) ?_;refine SW trivial [] [none] [] [] [] [] 0 ?_;refine AW.seq fun K119 hK119=>?_;refine SW trivial [] [none] [] [(5,Iz 0)] [] [] 0 ?_;refine AW.block ?_;refine AW.loopF (α:=Int) (fun n v3=>Abo.L1 k v0 v1 n v3=some v2) (fun v3=>[(0,Lz v0),(1,Iz v1),(5,Iz v3)]) (fun v3=>[]) 0 k (0) hF (by simp) (by simp) (by simp) ?_;rintro (_|n1) v3 hF K148 hK148
 ·try dsimp only at hF
  rw [Abo.L1] at hF; cases hF
 try dsimp only at hF
 rw [Abo.L1] at hF;refine AW.seq fun K150 hK150=>?_;refine SW trivial [] [none,none,none,none] [] [(9,AV.bool (decide (v3<(v0.length : Int))))] [] [] 0 ?_;by_cases h1 : v3<(v0.length : Int)
 ·replace hF:=AaN h1 hF;have h1_:=h1;try simp at h1_
  refine CT (by simp [h1,h1_] <;> omega) ?_;refine AW.skip ?_;refine hK150 _ _ _ ?_;refine AW.seq fun K154 hK154=>?_;refine AW.block ?_;refine SR [] [none,none,none,none,none,none] fun _ _ g r=>?_;obtain ⟨v4,h2,h3,h4,hF⟩:=AaM hF;have h4_:=Aaf h4;try simp at h4_
  have h3_:=h3;try simp at h3_
  have F1:=A7 h1 h1_ h2 h3 h4 h4_ h3_;refine TL F1 g r [] [(17,AV.bool (v4==v1))] [] [] 0 ?_;by_cases h5 : v4=v1
  ·replace hF:=AaN h5 hF;have h5q : v4=v1:=h5;have h5_:=AbY h5q;have h5__:=AbX h5q;have F2:=A3 F1 h5_ h5__;refine CT (by simp [F2] <;> omega) ?_;refine SW F2 [] [none] [0,1,5,17] [(4,AV.bool true)] [] [] 0 ?_;simp only [Option.some.injEq] at hF;subst hF;refine AW.ret (hQ _ _ _ ?_ (AaE ?_)).1
   ·simp [Try.f110,F2]
   ·simp [F2]
  ·replace hF:=AaO h5 hF;have h5_:=AbR h5;have h5__:=AbW h5;have F3:=A4 F1 h5 h5_ h5__;refine CF (by simp [F3] <;> omega) ?_;refine AW.skip ?_;refine hK154 _ _ _ ?_;refine RG [] [none,none,none] fun _ _ g r=>?_;try simp [F3]
   and_intros <;> first | exact GK g | apply r | omega | (simp [maxLen,F3] <;> omega)
   refine hK148 _ _ _ ?_;exact NX (k':=n1) (IntKind.wrap .i64 (v3+1)) hF (by simp [F3]) (by simp [F3])
 ·replace hF:=AaO h1 hF;have h1_:=h1;try simp at h1_
  refine CF (by simp [h1,h1_] <;> omega) ?_;refine AW.exit ?_;try simp
  refine hK119 _ _ _ ?_;refine SW (A2 h1 h1_) [] [none] [0,1,5] [(4,AV.bool false)] [] [] 0 ?_;simp only [Option.some.injEq] at hF;subst hF;refine AW.ret (hQ _ _ _ ?_ (AaE ?_)).1
  ·simp [Try.f110,h1,h1_]
  ·simp [h1,h1_]
theorem Af4 (k : Nat) (v0 : Int) (v1 : Int) (v2 : Int) (v3 : Int) (v4 : Int) (v5 : Int) (v6 : Bool) (hF : Adu k v0 v1 v2 v3 v4 v5=some v6) :
 AbA Try.prog 109 [AV.agg [AV.int .i64 v0,AV.int .i64 v1,AV.int .i64 v2],AV.agg [AV.int .i64 v3,AV.int .i64 v4,AV.int .i64 v5]] [] (AV.bool v6) []:=by
 unfold Adu at hF;refine EN Try.func109 ?_;intro c0 w0 Q h0 hQ
 refine WK [(0,AV.agg [Iz v0,Iz v1,Iz v2]),(1,AV.agg [Iz v3,Iz v4,Iz v5])] [] 0 (by simp) (by simp) ?_;refine SW trivial [] [none,none,none] [0,1] [(2,AV.ptr 0 0),(3,AV.ptr 1 0)] [] [(0,.cells [Iz v0,Iz v1,Iz v2]),(1,.cells [Iz v3,Iz v4,Iz v5])] 2 ?_;refine SR [] [none,none,none,none,none,none,some (10,false),some (10,false),some (10,false),some (10,false),some (10,false),some (10,false),some (16,true),some (16,true),some (16,true),some (16,true),some (16,true),some (10,false),none,none] fun _ _ g r=>?_;by_cases h1 : v0<v3
 ·replace hF:=AaN h1 hF;have h1_:=h1;try simp at h1_
  refine TL (A2 h1 h1_) g r [2,3] [(4,AV.bool true)] [0,1] [] 2 ?_;simp only [Option.some.injEq] at hF;subst hF;refine AW.ret (hQ _ _ _ ?_ (AaE ?_)).1
  ·simp [Try.f109,h1,h1_]
  ·simp [h1,h1_]
 ·replace hF:=AaO h1 hF;have h1_:=h1;try simp at h1_
  by_cases h2 : v0=v3
  ·replace hF:=AaN h2 hF;have h2q : v0=v3:=h2;have h2_:=AbY h2q;have h2__:=AbX h2q;have F1:=A4 h1 h1_ h2_ h2__;refine TL F1 g r [2,3] [(4,AV.bool (decide (v1<v4)))] [0,1] [] 2 ?_;simp only [Option.some.injEq] at hF;subst hF;refine AW.ret (hQ _ _ _ ?_ (AaE ?_)).1
   ·simp [Try.f109,F1]
   ·simp [F1]
  ·replace hF:=AaO h2 hF;have h2_:=AbR h2;have h2__:=AbW h2;have F2:=A5 h1 h1_ h2 h2_ h2__;refine TL F2 g r [2,3] [(4,AV.bool false)] [0,1] [] 2 ?_;simp only [Option.some.injEq] at hF;subst hF;refine AW.ret (hQ _ _ _ ?_ (AaE ?_)).1
   ·simp [Try.f109,F2]
   ·simp [F2]
theorem Agi (k : Nat) (v0 : Int) (v1 : (List AbD)) (v2 : (List Int)) (v3 : Int) (hF : Aan k v0 v1 v2=some v3) :
 AbA Try.prog 71 [AV.agg [AV.int .i64 v0,Q0 v1,AV.lst false false (List.map (AV.int .i64) v2)]] [] (AV.int .i64 v3) []:=by
 unfold Aan at hF;refine EN Try.func71 ?_;intro c0 w0 Q h0 hQ
 refine WK [(0,AV.agg [Iz v0,Q0 v1,Lz v2])] [] 0 (by simp) (by simp) ?_;refine SW trivial [] [none,none] [0] [(1,AV.ptr 0 0)] [] [(0,.cells [Iz v0,Q0 v1,Lz v2])] 1 ?_;refine AW.seq fun K401 hK401=>?_;refine SR [] [none,none,none,none,some (8,false),some (8,false),some (8,false),none,none,some (13,false),some (13,false),some (13,false),some (13,false),none,none,some (19,false),some (19,false),some (19,false),some (19,false),some (19,false),some (19,false),none] fun _ _ g r=>?_;by_cases h1 : v0<0
 ·replace hF:=AaN h1 hF;have h1_:=h1;try simp at h1_
  refine TL (A2 h1 h1_) g r [] [(26,AV.bool true)] [] [] 1 ?_;refine CT (by simp [h1,h1_]) ?_;refine SW (A2 h1 h1_) [] [none] [1,26] [(2,Iz 14)] [0] [] 1 ?_;simp only [Option.some.injEq] at hF;subst hF;refine AW.ret (hQ _ _ _ ?_ (AaE ?_)).1
  ·simp [Try.f71,h1,h1_]
  ·simp [h1,h1_]
 ·replace hF:=AaO h1 hF;have h1_:=h1;try simp at h1_
  by_cases h2 : 64<v0
  ·replace hF:=AaN h2 hF;have h2_:=h2;try simp at h2_
   have F1:=A4 h1 h1_ h2 h2_;refine TL F1 g r [] [(26,AV.bool true)] [] [] 1 ?_;refine CT (by simp [F1]) ?_;refine SW F1 [] [none] [1,26] [(2,Iz 14)] [0] [] 1 ?_;simp only [Option.some.injEq] at hF;subst hF;refine AW.ret (hQ _ _ _ ?_ (AaE ?_)).1
   ·simp [Try.f71,F1]
   ·simp [F1]
  ·replace hF:=AaO h2 hF;have h2_:=h2;try simp at h2_
   by_cases h3 : 500<(v1.length : Int)
   ·replace hF:=AaN h3 hF;have h3_:=h3;try simp at h3_
    have F2:=A6 h1 h1_ h2 h2_ h3 h3_;refine TL F2 g r [] [(26,AV.bool true)] [] [] 1 ?_;refine CT (by simp [F2]) ?_;refine SW F2 [] [none] [1,26] [(2,Iz 14)] [0] [] 1 ?_;simp only [Option.some.injEq] at hF;subst hF;refine AW.ret (hQ _ _ _ ?_ (AaE ?_)).1
    ·simp [Try.f71,F2]
    ·simp [F2]
   ·replace hF:=AaO h3 hF;have h3_:=h3;try simp at h3_
    have F3:=A6 h1 h1_ h2 h2_ h3 h3_;try simp [F3]
    and_intros
    try any_goals first | omega | (simp [maxLen,F3] <;> omega)
    obtain ⟨v4,h4,hF⟩:=AaH hF;refine AC (Afb k _ _ _ h4) (.cons (.same (by simp [F3])) (.cons (.same (by simp [F3])) .nil)) ?_;refine TL F3 g r [] [(26,AV.bool (!v4))] [] [] 1 ?_;by_cases h5 : (!v4)=true
    ·replace hF:=AaN h5 hF;have h5_:=h5;try simp at h5_
     have F4:=A3 F3 h5 h5_;refine CT (by simp [F4] <;> omega) ?_;refine SW F4 [] [none] [1,26] [(2,Iz 14)] [0] [] 1 ?_;simp only [Option.some.injEq] at hF;subst hF;refine AW.ret (hQ _ _ _ ?_ (AaE ?_)).1
     ·simp [Try.f71,F4]
     ·simp [F4]
    ·replace hF:=AaO h5 hF;have h5_:=h5;try simp at h5_
     have F5:=A3 F3 h5 h5_;refine CF (by simp [F5] <;> omega) ?_;refine AW.skip ?_;refine hK401 _ _ _ ?_;refine AW.seq fun K597 hK597=>?_;refine SW F5 [] [none] [26] [(3,Iz 0)] [] [] 1 ?_;refine AW.block ?_;refine AW.loopF (α:=Int) (fun n v5=>Aan.L1 k v0 v1 v2 n v5=some v3) (fun v5=>[(1,AV.ptr 0 0),(3,Iz v5)]) (fun v5=>[(0,.cells [Iz v0,Q0 v1,Lz v2])]) 1 k (0) hF (by simp [F5]) (by simp [F5]) (by simp) ?_;rintro (_|n1) v5 hF K740 hK740
     ·try dsimp only at hF
      rw [Aan.L1] at hF; cases hF
     try dsimp only at hF
     rw [Aan.L1] at hF;refine AW.seq fun K742 hK742=>?_;refine SW F5 [] [none,none,none,none,none] [] [(31,AV.bool (decide (v5<(v1.length : Int))))] [] [] 1 ?_;by_cases h6 : v5<(v1.length : Int)
     ·replace hF:=AaN h6 hF;have h6_:=h6;try simp at h6_
      have F6:=A3 F5 h6 h6_;refine CT (by simp [F6] <;> omega) ?_;refine AW.skip ?_;refine hK742 _ _ _ ?_;refine AW.seq fun K765 hK765=>?_;refine AW.block ?_;refine SR [] [none,none,none,none,none,none,none] fun _ _ g r=>?_;obtain ⟨v6,h7,h8,h9,hF⟩:=AaM hF;have h9_:=Aaf h9;try simp at h9_
      have h8_:=h8;try simp at h8_
      have F7:=A6 F6 h7 h8 h9 h9_ h8_;refine TL F7 g r [] [(4,AV.ptr 1 0)] [] [(1,.cells [Iz v6.From,Iz v6.To,Iz v6.Level])] 2 ?_;refine AW.seq fun K775 hK775=>?_;refine SR [] [none,none,none,none,some (42,false),some (42,false),some (42,false),some (42,false),some (42,false),none,none,some (49,false),some (49,false),some (49,false),none,none,some (54,false),some (54,false),some (54,false),some (54,false),some (54,false),none,none,some (61,false),some (61,false),some (61,false),some (61,false),some (61,false),none,none,some (68,false),some (68,false),some (68,false),none,none,some (73,false),some (73,false),some (73,false),none] fun _ _ g r=>?_;by_cases h10 : v6.From<0
      ·replace hF:=AaN h10 hF;have h10_:=h10;try simp at h10_
       have F8:=A3 F7 h10 h10_;refine TL F8 g r [] [(77,AV.bool true)] [] [] 2 ?_;refine CT (by simp [F8]) ?_;refine SW F8 [] [none] [1,3,4,77] [(2,Iz 14)] [0,1] [] 2 ?_;simp only [Option.some.injEq] at hF;subst hF;refine AW.ret (hQ _ _ _ ?_ (AaE ?_)).1
       ·simp [Try.f71,F8]
       ·simp [F8]
      ·replace hF:=AaO h10 hF;have h10_:=h10;try simp at h10_
       by_cases h11 : v0≤v6.From
       ·replace hF:=AaN h11 hF;have h11_:=h11;try simp at h11_
        have F9:=A5 F7 h10 h10_ h11 h11_;refine TL F9 g r [] [(77,AV.bool true)] [] [] 2 ?_;refine CT (by simp [F9]) ?_;refine SW F9 [] [none] [1,3,4,77] [(2,Iz 14)] [0,1] [] 2 ?_;simp only [Option.some.injEq] at hF;subst hF;refine AW.ret (hQ _ _ _ ?_ (AaE ?_)).1
        ·simp [Try.f71,F9]
        ·simp [F9]
       ·replace hF:=AaO h11 hF;have h11_:=h11;try simp at h11_
        by_cases h12 : v6.To<0
        ·replace hF:=AaN h12 hF;have h12_:=h12;try simp at h12_
         have F10:=A7 F7 h10 h10_ h11 h11_ h12 h12_;refine TL F10 g r [] [(77,AV.bool true)] [] [] 2 ?_;refine CT (by simp [F10]) ?_;refine SW F10 [] [none] [1,3,4,77] [(2,Iz 14)] [0,1] [] 2 ?_;simp only [Option.some.injEq] at hF;subst hF;refine AW.ret (hQ _ _ _ ?_ (AaE ?_)).1
         ·simp [Try.f71,F10]
         ·simp [F10]
        ·replace hF:=AaO h12 hF;have h12_:=h12;try simp at h12_
         by_cases h13 : v0≤v6.To
         ·replace hF:=AaN h13 hF;have h13_:=h13;try simp at h13_
          have F11:=A9 F7 h10 h10_ h11 h11_ h12 h12_ h13 h13_;refine TL F11 g r [] [(77,AV.bool true)] [] [] 2 ?_;refine CT (by simp [F11]) ?_;refine SW F11 [] [none] [1,3,4,77] [(2,Iz 14)] [0,1] [] 2 ?_;simp only [Option.some.injEq] at hF;subst hF;refine AW.ret (hQ _ _ _ ?_ (AaE ?_)).1
          ·simp [Try.f71,F11]
          ·simp [F11]
         ·replace hF:=AaO h13 hF;have h13_:=h13;try simp at h13_
          by_cases h14 : v6.From=v6.To
          ·replace hF:=AaN h14 hF;have h14q : v6.From=v6.To:=h14;have h14_:=AbY h14q;have h14__:=AbX h14q;have F12:=A9 F7 h10 h10_ h11 h11_ h12 h12_ h13 (A3 h13_ h14_ h14__);refine TL F12 g r [] [(77,AV.bool true)] [] [] 2 ?_;refine CT (by simp [F12]) ?_;refine SW F12 [] [none] [1,3,4,77] [(2,Iz 14)] [0,1] [] 2 ?_;simp only [Option.some.injEq] at hF;subst hF;refine AW.ret (hQ _ _ _ ?_ (AaE ?_)).1
           ·simp [Try.f71,F12]
           ·simp [F12]
          ·replace hF:=AaO h14 hF;have h14_:=AbR h14;have h14__:=AbW h14;by_cases h15 : v6.Level<1
           ·replace hF:=AaN h15 hF;have h15_:=h15;try simp at h15_
            have F13:=A9 F7 h10 h10_ h11 h11_ h12 h12_ h13 (A6 h13_ h14 h14_ h14__ h15 h15_);refine TL F13 g r [] [(77,AV.bool true)] [] [] 2 ?_;refine CT (by simp [F13]) ?_;refine SW F13 [] [none] [1,3,4,77] [(2,Iz 14)] [0,1] [] 2 ?_;simp only [Option.some.injEq] at hF;subst hF;refine AW.ret (hQ _ _ _ ?_ (AaE ?_)).1
            ·simp [Try.f71,F13]
            ·simp [F13]
           ·replace hF:=AaO h15 hF;have h15_:=h15;try simp at h15_
            have F14:=A9 F7 h10 h10_ h11 h11_ h12 h12_ h13 (A6 h13_ h14 h14_ h14__ h15 h15_);refine TL F14 g r [] [(77,AV.bool (decide (3<v6.Level)))] [] [] 2 ?_;by_cases h16 : 3<v6.Level
            ·replace hF:=AaN h16 hF;have h16_:=h16;try simp at h16_
             have F15:=A3 F14 h16 h16_;refine CT (by simp [F15] <;> omega) ?_;refine SW F15 [] [none] [1,3,4,77] [(2,Iz 14)] [0,1] [] 2 ?_;simp only [Option.some.injEq] at hF;subst hF;refine AW.ret (hQ _ _ _ ?_ (AaE ?_)).1
             ·simp [Try.f71,F15]
             ·simp [F15]
            ·replace hF:=AaO h16 hF;have h16_:=h16;try simp at h16_
             have F16:=A3 F14 h16 h16_;refine CF (by simp [F16] <;> omega) ?_;refine AW.skip ?_;refine hK775 _ _ _ ?_;refine AW.midF (α:=Bool) (fun v7=>Aan.J2 k v5 (fun v5_=>Aan.L1 k v0 v1 v2 n1 v5_) v7=some v3) (fun v7=>[(1,AV.ptr 0 0),(3,Iz v5),(104,AV.bool v7)]) (fun v7=>[(0,.cells [Iz v0,Q0 v1,Lz v2])]) 1 (fun K787 hK787=>?_) ?_
             ·refine RG [] [none,none,none,some (80,true),some (80,true),some (80,true),some (80,true),some (80,true),some (80,true),some (80,true),some (80,true),some (80,true),none,none,some (91,false),some (91,false),some (91,false),some (91,false),some (91,false),none,none,some (98,false),some (98,false),some (98,false),some (98,false),some (98,false),none] fun _ _ g r=>?_;by_cases h18 : 0<v5
              ·replace hF:=AaN h18 hF;have h18_:=h18;try simp at h18_
               obtain ⟨v8,h19,h20,h21,hF⟩:=AaM hF;have h21_:=Aaf h21;try simp at h21_
               have h20_:=h20;try simp at h20_
               have F17:=A8 F16 h18 h18_ h19 h20 h21 h21_ h20_;try simp [F17]
               and_intros
               try any_goals first | omega | (simp [maxLen,F17] <;> omega)
               obtain ⟨v9,h22,hF⟩:=AaH hF;refine AC (Af4 k _ _ _ _ _ _ _ h22) (.cons (.same (by simp [F17])) (.cons (.same (by simp [F17])) .nil)) ?_;by_cases h23 : (!v9)=true
               ·replace hF:=AaN h23 hF;have h23_:=h23;try simp at h23_
                have F18:=A3 F17 h23 h23_;try simp [F18]
                and_intros <;> first | exact GK g | apply r | omega | (simp [maxLen,F18] <;> omega)
                refine hK787 _ _ _ ?_;refine RN h0 [(0,0)] [(1,AV.ptr 0 0),(3,Iz v5),(104,AV.bool true)] [(0,.cells [Iz v0,Q0 v1,Lz v2])] 1 (by simp [F18]) (by simp [F18]) ?_;exact JN (true) hF (by simp [F18]) (by simp [F18])
               ·replace hF:=AaO h23 hF;have h23_:=h23;try simp at h23_
                have F19:=A3 F17 h23 h23_;try simp [F19]
                and_intros
                try any_goals first | omega | (simp [maxLen,F19] <;> omega)
                obtain ⟨v10,h24,hF⟩:=AaH hF;refine AC (AdW k _ _ _ h24) (.cons (.same (by simp [F19])) (.cons (.same (by simp [F19])) .nil)) ?_;by_cases h25 : v10=true
                ·replace hF:=AaN h25 hF;have h25_:=h25;try simp at h25_
                 have F20:=A3 F19 h25 h25_;try simp [F20]
                 and_intros <;> first | exact GK g | apply r | omega | (simp [maxLen,F20] <;> omega)
                 refine hK787 _ _ _ ?_;refine RN h0 [(0,0)] [(1,AV.ptr 0 0),(3,Iz v5),(104,AV.bool true)] [(0,.cells [Iz v0,Q0 v1,Lz v2])] 1 (by simp [F20]) (by simp [F20]) ?_;exact JN (true) hF (by simp [F20]) (by simp [F20])
                ·replace hF:=AaO h25 hF;have h25_:=h25;try simp at h25_
                 have F21:=A3 F19 h25 h25_;try simp [F21]
                 and_intros
                 try any_goals first | omega | (simp [maxLen,F21] <;> omega)
                 obtain ⟨v11,h26,hF⟩:=AaH hF;refine AC (AdW k _ _ _ h26) (.cons (.same (by simp [F21])) (.cons (.same (by simp [F21])) .nil)) ?_;try simp [F21]
                 and_intros <;> first | exact GK g | apply r | omega | (simp [maxLen,F21] <;> omega)
                 refine hK787 _ _ _ ?_;refine RN h0 [(0,0)] [(1,AV.ptr 0 0),(3,Iz v5),(104,AV.bool v11)] [(0,.cells [Iz v0,Q0 v1,Lz v2])] 1 (by simp [F21]) (by simp [F21]) ?_;exact JN (v11) hF (by simp [F21]) (by simp [F21])
              ·replace hF:=AaO h18 hF;have h18_:=h18;try simp at h18_
               have F22:=A3 F16 h18 h18_;try simp [F22]
               and_intros
               try any_goals first | omega | (simp [maxLen,F22] <;> omega)
               obtain ⟨v12,h27,hF⟩:=AaH hF;refine AC (AdW k _ _ _ h27) (.cons (.same (by simp [F22])) (.cons (.same (by simp [F22])) .nil)) ?_;by_cases h28 : v12=true
               ·replace hF:=AaN h28 hF;have h28_:=h28;try simp at h28_
                have F23:=A3 F22 h28 h28_;try simp [F23]
                and_intros <;> first | exact GK g | apply r | omega | (simp [maxLen,F23] <;> omega)
                refine hK787 _ _ _ ?_;refine RN h0 [(0,0)] [(1,AV.ptr 0 0),(3,Iz v5),(104,AV.bool true)] [(0,.cells [Iz v0,Q0 v1,Lz v2])] 1 (by simp [F23]) (by simp [F23]) ?_;exact JN (true) hF (by simp [F23]) (by simp [F23])
               ·replace hF:=AaO h28 hF;have h28_:=h28;try simp at h28_
                have F24:=A3 F22 h28 h28_;try simp [F24]
                and_intros
                try any_goals first | omega | (simp [maxLen,F24] <;> omega)
                obtain ⟨v13,h29,hF⟩:=AaH hF;refine AC (AdW k _ _ _ h29) (.cons (.same (by simp [F24])) (.cons (.same (by simp [F24])) .nil)) ?_;try simp [F24]
                and_intros <;> first | exact GK g | apply r | omega | (simp [maxLen,F24] <;> omega)
                refine hK787 _ _ _ ?_;refine RN h0 [(0,0)] [(1,AV.ptr 0 0),(3,Iz v5),(104,AV.bool v13)] [(0,.cells [Iz v0,Q0 v1,Lz v2])] 1 (by simp [F24]) (by simp [F24]) ?_;exact JN (v13) hF (by simp [F24]) (by simp [F24])
             ·rintro v7 hF
              try dsimp only at hF
              unfold Aan.J2 at hF;by_cases h17 : v7=true
              ·replace hF:=AaN h17 hF;have h17_:=h17;try simp at h17_
               have F25:=A3 F16 h17 h17_;refine CT (by simp [F25] <;> omega) ?_;refine SW F25 [] [none] [1,3,104] [(2,Iz 14)] [0] [] 1 ?_;simp only [Option.some.injEq] at hF;subst hF;refine AW.ret (hQ _ _ _ ?_ (AaE ?_)).1
               ·simp [Try.f71,F25]
               ·simp [F25]
              ·replace hF:=AaO h17 hF;have h17_:=h17;try simp at h17_
               have F26:=A3 F16 h17 h17_;refine CF (by simp [F26] <;> omega) ?_;refine AW.skip ?_;refine hK765 _ _ _ ?_;refine RG [] [none,none,none] fun _ _ g r=>?_;try simp [F26]
               and_intros <;> first | exact GK g | apply r | omega | (simp [maxLen,F26] <;> omega)
               refine hK740 _ _ _ ?_;exact NX (k':=n1) (IntKind.wrap .i64 (v5+1)) hF (by simp [F26]) (by simp [F26])
     ·replace hF:=AaO h6 hF;have h6_:=h6;try simp at h6_
      have F27:=A3 F5 h6 h6_;refine CF (by simp [F27] <;> omega) ?_;refine AW.exit ?_;try simp
      refine hK597 _ _ _ ?_;refine SW F27 [] [none] [1,3] [(2,Iz 0)] [0] [] 1 ?_;simp only [Option.some.injEq] at hF;subst hF;refine AW.ret (hQ _ _ _ ?_ (AaE ?_)).1
      ·simp [Try.f71,F27]
      ·simp [F27]
theorem Af3 (k : Nat) (v0 : Int) (v1 : (List AbD)) (v2 : (List Int)) (v3 : (List Int)) (v4 : (List Int)) (v5 : Int) (v6 : Bool) (hF : Aar k v0 v1 v2 v3 v4 v5=some v6) :
 AbA Try.prog 72 [AV.agg [AV.int .i64 v0,Q0 v1,AV.lst false false (List.map (AV.int .i64) v2)],AV.agg [AV.lst false false (List.map (AV.int .i64) v3),AV.lst false false (List.map (AV.int .i64) v4),AV.int .i64 v5]] [] (AV.bool v6) []:=by
 unfold Aar at hF;refine EN Try.func72 ?_;intro c0 w0 Q h0 hQ
 refine WK [(0,AV.agg [Iz v0,Q0 v1,Lz v2]),(1,AV.agg [Lz v3,Lz v4,Iz v5])] [] 0 (by simp) (by simp) ?_;refine SW trivial [] [none,none,none] [0,1] [(2,AV.ptr 0 0),(3,AV.ptr 1 0)] [] [(0,.cells [Iz v0,Q0 v1,Lz v2]),(1,.cells [Lz v3,Lz v4,Iz v5])] 2 ?_;refine AW.seq fun K127 hK127=>?_;refine SR [] [none,none,none,none,none,some (10,false),some (10,false),some (10,false),some (10,false),some (10,false),some (10,false),none,none,some (18,false),some (18,false),some (18,false),some (18,false),none,none,some (24,false),some (24,false),some (24,false),some (24,false),none,none,some (30,false),some (30,false),some (30,false),none,none,some (35,false),some (35,false),some (35,false),none] fun _ _ g r=>?_;by_cases h1 : (v3.length : Int)=0
 ·replace hF:=AaN h1 hF;have h1q : (v3.length : Int)=0:=h1;have h1_:=AbY h1q;have h1__:=AbX h1q;have F1:=A3 h1_ h1__ h1q;refine TL F1 g r [2] [(39,AV.bool true)] [0] [] 2 ?_;refine CT (by simp [F1]) ?_;refine SW F1 [] [none] [3,39] [(4,AV.bool false)] [1] [] 2 ?_;simp only [Option.some.injEq] at hF;subst hF;refine AW.ret (hQ _ _ _ ?_ (AaE ?_)).1
  ·simp [Try.f72,F1]
  ·simp [F1]
 ·replace hF:=AaO h1 hF;have h1_:=AbR h1;have h1__:=AbW h1;have F2:=A3 h1 h1_ h1__;try simp [F2]
  and_intros
  try any_goals first | omega | (simp [maxLen,F2] <;> omega)
  obtain ⟨v7,h2,hF⟩:=AaH hF;refine AC (Afb k _ _ _ h2) (.cons (.same (by simp [F2])) (.cons (.same (by simp [F2])) .nil)) ?_;by_cases h3 : (!v7)=true
  ·replace hF:=AaN h3 hF;have h3_:=h3;try simp at h3_
   have F3:=A3 F2 h3 h3_;refine TL F3 g r [2] [(39,AV.bool true)] [0] [] 2 ?_;refine CT (by simp [F3]) ?_;refine SW F3 [] [none] [3,39] [(4,AV.bool false)] [1] [] 2 ?_;simp only [Option.some.injEq] at hF;subst hF;refine AW.ret (hQ _ _ _ ?_ (AaE ?_)).1
   ·simp [Try.f72,F3]
   ·simp [F3]
  ·replace hF:=AaO h3 hF;have h3_:=h3;try simp at h3_
   by_cases h4 : (v4.length : Int)<1
   ·replace hF:=AaN h4 hF;have h4_:=h4;try simp at h4_
    have F4:=A5 F2 h3 h3_ h4 h4_;refine TL F4 g r [2] [(39,AV.bool true)] [0] [] 2 ?_;refine CT (by simp [F4]) ?_;refine SW F4 [] [none] [3,39] [(4,AV.bool false)] [1] [] 2 ?_;simp only [Option.some.injEq] at hF;subst hF;refine AW.ret (hQ _ _ _ ?_ (AaE ?_)).1
    ·simp [Try.f72,F4]
    ·simp [F4]
   ·replace hF:=AaO h4 hF;have h4_:=h4;try simp at h4_
    by_cases h5 : 8<(v4.length : Int)
    ·replace hF:=AaN h5 hF;have h5_:=h5;try simp at h5_
     have F5:=A7 F2 h3 h3_ h4 h4_ h5 h5_;refine TL F5 g r [2] [(39,AV.bool true)] [0] [] 2 ?_;refine CT (by simp [F5]) ?_;refine SW F5 [] [none] [3,39] [(4,AV.bool false)] [1] [] 2 ?_;simp only [Option.some.injEq] at hF;subst hF;refine AW.ret (hQ _ _ _ ?_ (AaE ?_)).1
     ·simp [Try.f72,F5]
     ·simp [F5]
    ·replace hF:=AaO h5 hF;have h5_:=h5;try simp at h5_
     by_cases h6 : v5<1
     ·replace hF:=AaN h6 hF;have h6_:=h6;try simp at h6_
      have F6:=A9 F2 h3 h3_ h4 h4_ h5 h5_ h6 h6_;refine TL F6 g r [2] [(39,AV.bool true)] [0] [] 2 ?_;refine CT (by simp [F6]) ?_;refine SW F6 [] [none] [3,39] [(4,AV.bool false)] [1] [] 2 ?_;simp only [Option.some.injEq] at hF;subst hF;refine AW.ret (hQ _ _ _ ?_ (AaE ?_)).1
      ·simp [Try.f72,F6]
      ·simp [F6]
     ·replace hF:=AaO h6 hF;have h6_:=h6;try simp at h6_
      have F7:=A9 F2 h3 h3_ h4 h4_ h5 h5_ h6 h6_;refine TL F7 g r [2] [(39,AV.bool (decide (3<v5)))] [0] [] 2 ?_;by_cases h7 : 3<v5
      ·replace hF:=AaN h7 hF;have h7_:=h7;try simp at h7_
       have F8:=A3 F7 h7 h7_;refine CT (by simp [F8] <;> omega) ?_;refine SW F8 [] [none] [3,39] [(4,AV.bool false)] [1] [] 2 ?_;simp only [Option.some.injEq] at hF;subst hF;refine AW.ret (hQ _ _ _ ?_ (AaE ?_)).1
       ·simp [Try.f72,F8]
       ·simp [F8]
      ·replace hF:=AaO h7 hF;have h7_:=h7;try simp at h7_
       have F9:=A3 F7 h7 h7_;refine CF (by simp [F9] <;> omega) ?_;refine AW.skip ?_;refine hK127 _ _ _ ?_;refine AW.seq fun K185 hK185=>?_;refine SW F9 [] [none] [39] [(5,Iz 0)] [] [] 2 ?_;refine AW.block ?_;refine RM h0 [(0,1)] [(3,AV.ptr 0 0),(5,Iz 0)] [(0,.cells [Lz v3,Lz v4,Iz v5])] 1 (by simp [F9]) (by simp [F9]) ?_;refine AW.loopF (α:=Int) (fun n v8=>Aar.L1 k v4 n v8=some v6) (fun v8=>[(3,AV.ptr 0 0),(5,Iz v8)]) (fun v8=>[(0,.cells [Lz v3,Lz v4,Iz v5])]) 1 k (0) hF (by simp [F9]) (by simp [F9]) (by simp) ?_;rintro (_|n1) v8 hF K222 hK222
       ·try dsimp only at hF
        rw [Aar.L1] at hF; cases hF
       try dsimp only at hF
       rw [Aar.L1] at hF;refine AW.seq fun K224 hK224=>?_;refine SW F9 [] [none,none,none,none,none] [] [(44,AV.bool (decide (v8<(v4.length : Int))))] [] [] 1 ?_;by_cases h8 : v8<(v4.length : Int)
       ·replace hF:=AaN h8 hF;have h8_:=h8;try simp at h8_
        have F10:=A3 F9 h8 h8_;refine CT (by simp [F10] <;> omega) ?_;refine AW.skip ?_;refine hK224 _ _ _ ?_;refine AW.midF (α:=Unit) (fun _=>Aar.J2 k v8 (fun v8_=>Aar.L1 k v4 n1 v8_)=some v6) (fun _=>[(3,AV.ptr 0 0),(5,Iz v8)]) (fun _=>[(0,.cells [Lz v3,Lz v4,Iz v5])]) 1 (fun K231 hK231=>?_) ?_
        ·refine AW.block ?_;refine SR [] [none,none,none,none,none,none,none,some (53,false),some (53,false),some (53,false),some (53,false),some (53,false),some (53,false),none,none,some (61,false),some (61,false),some (61,false),some (64,true),some (64,true),some (64,true),some (64,true),some (64,true),some (64,true),some (64,true),some (64,true),some (64,true),some (64,true),some (64,true),some (64,true),some (61,false),none] fun _ _ g r=>?_;obtain ⟨v9,h9,h10,h11,hF⟩:=AaM hF;have h11_:=Aaf h11;try simp at h11_
         have h10_:=h10;try simp at h10_
         by_cases h12 : v9<1
         ·replace hF:=AaN h12 hF;have h12_:=h12;try simp at h12_
          have F11:=A8 F10 h9 h10 h11 h11_ h10_ h12 h12_;refine TL F11 g r [] [(78,AV.bool true)] [] [] 1 ?_;refine CT (by simp [F11]) ?_;refine SW F11 [] [none] [3,5,78] [(4,AV.bool false)] [0] [] 1 ?_;simp only [Option.some.injEq] at hF;subst hF;refine AW.ret (hQ _ _ _ ?_ (AaE ?_)).1
          ·simp [Try.f72,F11]
          ·simp [F11]
         ·replace hF:=AaO h12 hF;have h12_:=h12;try simp at h12_
          by_cases h13 : 1000<v9
          ·replace hF:=AaN h13 hF;have h13_:=h13;try simp at h13_
           have F12:=A9 F10 h9 h10 h11 h11_ h10_ h12 h12_ (A2 h13 h13_);refine TL F12 g r [] [(78,AV.bool true)] [] [] 1 ?_;refine CT (by simp [F12]) ?_;refine SW F12 [] [none] [3,5,78] [(4,AV.bool false)] [0] [] 1 ?_;simp only [Option.some.injEq] at hF;subst hF;refine AW.ret (hQ _ _ _ ?_ (AaE ?_)).1
           ·simp [Try.f72,F12]
           ·simp [F12]
          ·replace hF:=AaO h13 hF;have h13_:=h13;try simp at h13_
           by_cases h14 : 0<v8
           ·replace hF:=AaN h14 hF;have h14_:=h14;try simp at h14_
            obtain ⟨v10,h15,h16,h17,hF⟩:=AaM hF;have h17_:=Aaf h17;try simp at h17_
            have h16_:=h16;try simp at h16_
            have F13:=A9 F10 h9 h10 h11 h11_ h10_ h12 h12_ (A9 h13 h13_ h14 h14_ h15 h16 h17 h17_ h16_);refine TL F13 g r [] [(78,AV.bool (decide (v10<v9)))] [] [] 1 ?_;by_cases h18 : v10<v9
            ·replace hF:=AaN h18 hF;have h18_:=h18;try simp at h18_
             have F14:=A3 F13 h18 h18_;refine CT (by simp [F14] <;> omega) ?_;refine SW F14 [] [none] [3,5,78] [(4,AV.bool false)] [0] [] 1 ?_;simp only [Option.some.injEq] at hF;subst hF;refine AW.ret (hQ _ _ _ ?_ (AaE ?_)).1
             ·simp [Try.f72,F14]
             ·simp [F14]
            ·replace hF:=AaO h18 hF;have h18_:=h18;try simp at h18_
             have F15:=A3 F13 h18 h18_;refine CF (by simp [F15] <;> omega) ?_;refine AW.skip ?_;refine hK231 _ _ _ ?_;exact JN (()) hF (by simp [F15]) (by simp [F15])
           ·replace hF:=AaO h14 hF;have h14_:=h14;try simp at h14_
            have F16:=A9 F10 h9 h10 h11 h11_ h10_ h12 h12_ (A4 h13 h13_ h14 h14_);refine TL F16 g r [] [(78,AV.bool false)] [] [] 1 ?_;refine CF (by simp [F16]) ?_;refine AW.skip ?_;refine hK231 _ _ _ ?_;exact JN (()) hF (by simp [F16]) (by simp [F16])
        ·rintro ⟨⟩ hF
         try dsimp only at hF
         unfold Aar.J2 at hF;refine RG [] [none,none,none] fun _ _ g r=>?_;try simp [F10]
         and_intros <;> first | exact GK g | apply r | omega | (simp [maxLen,F10] <;> omega)
         refine hK222 _ _ _ ?_;exact NX (k':=n1) (IntKind.wrap .i64 (v8+1)) hF (by simp [F10]) (by simp [F10])
       ·replace hF:=AaO h8 hF;have h8_:=h8;try simp at h8_
        have F17:=A3 F9 h8 h8_;refine CF (by simp [F17] <;> omega) ?_;refine AW.exit ?_;try simp
        refine hK185 _ _ _ ?_;refine SW F17 [] [none] [3,5] [(4,AV.bool true)] [0] [] 1 ?_;simp only [Option.some.injEq] at hF;subst hF;refine AW.ret (hQ _ _ _ ?_ (AaE ?_)).1
        ·simp [Try.f72,F17]
        ·simp [F17]
end Go.TF
