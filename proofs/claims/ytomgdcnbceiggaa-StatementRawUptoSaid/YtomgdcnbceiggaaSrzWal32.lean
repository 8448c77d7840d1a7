import Derived.Test.YtomgdcnbceiggaaSrzWal30
import Derived.Test.YtomgdcnbceiggaaSrzWal31
set_option linter.unusedVariables false
set_option linter.unusedSimpArgs false
set_option maxRecDepth 100000
set_option maxHeartbeats 4000000
namespace Go.TF
open Go Go.Abs Go.Proofs Go.Proofs.YtomgdcnbceiggaaSrT
abbrev Aep  : Aaq := .cells [Iz 0,Iz 0,AV.str (ByteArray.mk #[]),Iz 0,Iz 0,Iz 0,Iz 0,Iz 0,AV.lst true true (List.map (AV.int .i64) ([] : List Int)),AV.lst true true (List.map AaA.av ([] : List AaA)),AV.str (ByteArray.mk #[]),Iz 0,AV.str (ByteArray.mk #[])]
theorem Ael (k : Nat) (v0 : Int) (v1 : Int) (v2 : ByteArray) (v3 : Int) (v4 : Int) (v5 : Int) (v6 : Int) (v7 : Int) (v8 : (List Int)) (v9 : (List AaA)) (v10 : ByteArray) (v11 : Int) (v12 : ByteArray) (v13 : AaI) (hF : AcZ k v0 v1 v2 v3 v4 v5 v6 v7 v8 v9 v10 v11 v12=some v13) :
 AbK Try.prog 47 [AV.agg [AV.int .i64 v0,AV.int .i64 v1,AV.str v2,AV.int .i64 v3,AV.int .i64 v4,AV.int .i64 v5,AV.int .i64 v6,AV.int .i64 v7,AV.lst false false (List.map (AV.int .i64) v8),Q0 v9,AV.str v10,AV.int .i64 v11,AV.str v12]] [] (AV.agg [AV.int .i64 v13.Author,AV.int .i64 v13.Number,AV.str v13.Prev,AV.int .i64 v13.Time,AV.int .i64 v13.Kind,AV.int .i64 v13.A,AV.int .i64 v13.B,AV.int .i64 v13.C,AV.lst false false (List.map (AV.int .i64) v13.Lst),Q0 v13.Pins,AV.str v13.Body,AV.int .i64 v13.Seal_Key,AV.str v13.Seal_Digest]) []:=by
 unfold AcZ at hF;refine EN Try.func47 ?_;intro c0 w0 Q h0 hQ
 refine WK [(0,AV.agg [Iz v0,Iz v1,AV.str v2,Iz v3,Iz v4,Iz v5,Iz v6,Iz v7,Lz v8,Q0 v9,AV.str v10,Iz v11,AV.str v12])] [] 0 (by simp) (by simp) ?_;refine SW trivial [] [none,none] [0] [(1,AV.ptr 0 0),(2,AV.ptr 1 0)] [] [(0,.cells [Iz v0,Iz v1,AV.str v2,Iz v3,Iz v4,Iz v5,Iz v6,Iz v7,Lz v8,Q0 v9,AV.str v10,Iz v11,AV.str v12]),(1,Aep )] 2 ?_;refine SR [] [none,none,none,none,none,none,none,none,none,none] fun _ _ g r=>?_;try simp
 and_intros
 try any_goals first | omega | (simp [maxLen] <;> omega)
 obtain ⟨v14,h1,hF⟩:=AaF hF;refine AC (Aet k _ _ h1) (.cons (.same (by simp)) .nil) ?_;try simp
 and_intros
 try any_goals first | omega | (simp [maxLen] <;> omega)
 obtain ⟨v15,h2,hF⟩:=AaF hF;refine AC (AdW k _ _ h2) (.cons (.same (by simp)) .nil) ?_;refine TL trivial g r [] [] [0] [(0,.cells [Iz v0,Iz v1,AV.str v2,Iz v3,Iz v4,Iz v5,Iz v6,Iz v7,AV.slc 2 0 1 v14.length false,AV.slc 3 0 3 v15.length false,AV.str v10,Iz v11,AV.str v12]),(2,Gi v14),(3,.grow (AaW (List.map AaA.av v15)))] 4 ?_;refine AW.frz 2 (o:=Gi v14) (by simp) rfl [] [(0,.cells [Iz v0,Iz v1,AV.str v2,Iz v3,Iz v4,Iz v5,Iz v6,Iz v7,Lz v14,AV.slc 3 0 3 v15.length false,AV.str v10,Iz v11,AV.str v12])] trivial ⟨⟨by simp,Aaq.cells [Iz v0,Iz v1,AV.str v2,Iz v3,Iz v4,Iz v5,Iz v6,Iz v7,AV.slc 2 0 1 v14.length false,AV.slc 3 0 3 v15.length false,AV.str v10,Iz v11,AV.str v12],by simp,(.mk (.cons (.same _) (.cons (.same _) (.cons (.same _) (.cons (.same _) (.cons (.same _) (.cons (.same _) (.cons (.same _) (.cons (.same _) (.cons (.l (by simp) (by simp) (by simp) (by simp)) (.cons (.same _) (.cons (.same _) (.cons (.same _) (.cons (.same _) .nil))))))))))))))⟩,trivial⟩ ?_;refine AW.frz 3 (o := .grow (AaW (List.map AaA.av v15))) (by simp) rfl [] [(0,.cells [Iz v0,Iz v1,AV.str v2,Iz v3,Iz v4,Iz v5,Iz v6,Iz v7,Lz v14,Q0 v15,AV.str v10,Iz v11,AV.str v12])] trivial ⟨⟨by simp,Aaq.cells [Iz v0,Iz v1,AV.str v2,Iz v3,Iz v4,Iz v5,Iz v6,Iz v7,Lz v14,AV.slc 3 0 3 v15.length false,AV.str v10,Iz v11,AV.str v12],by simp,(.mk (.cons (.same _) (.cons (.same _) (.cons (.same _) (.cons (.same _) (.cons (.same _) (.cons (.same _) (.cons (.same _) (.cons (.same _) (.cons (.same _) (.cons (.l (by simp) (by simp) (by simp) (by simp)) (.cons (.same _) (.cons (.same _) (.cons (.same _) .nil))))))))))))))⟩,trivial⟩ ?_;refine WK [(1,AV.ptr 0 0),(2,AV.ptr 1 0)] [(0,.cells [Iz v0,Iz v1,AV.str v2,Iz v3,Iz v4,Iz v5,Iz v6,Iz v7,Lz v14,Q0 v15,AV.str v10,Iz v11,AV.str v12]),(1,Aep )] 4 (by simp) (by simp) ?_;obtain ⟨v16,h3,hF⟩:=AaF hF;refine CL trivial [] [none,none,none,none,none,none,none] (Acb k _ _ _ _ _ _ _ _ _ _ _ _ _ _ h3) [] [] [0] [(0,.cells [Iz v0,Iz v1,AV.str v2,Iz v3,Iz v4,Iz v5,Iz v6,Iz v7,Lz v14,Q0 v15,AV.str v10,Iz v0,AV.str v16])] 4 ?_;refine SQ [] [none,none] fun _ _ g r=>?_;try simp
 and_intros <;> first | exact GK g | apply r | omega | (simp [maxLen] <;> omega)
 refine RM h0 [(0,1)] [(2,AV.ptr 0 0)] [(0,.cells [Iz v0,Iz v1,AV.str v2,Iz v3,Iz v4,Iz v5,Iz v6,Iz v7,Lz v14,Q0 v15,AV.str v10,Iz v0,AV.str v16])] 1 (by simp) (by simp) ?_;simp only [Option.some.injEq] at hF;subst hF;refine AW.ret (hQ _ _ _ ?_ (AaC ?_)).1
 ·simp [Try.f47]
 ·simp
theorem AbV (k : Nat) (v0 : Int) (v1 : Int) (v2 : Int) (v3 : Bool) (hF : Abd k v0 v1 v2=some v3) :
 AbK Try.prog 70 [AV.int .i64 v0,AV.int .i64 v1,AV.int .i64 v2] [] (AV.bool v3) []:=by
 unfold Abd at hF;refine EN Try.func70 ?_;intro c0 w0 Q h0 hQ
 refine WK [(0,Iz v0),(1,Iz v1),(2,Iz v2)] [] 0 (by simp) (by simp) ?_;refine SW trivial [] [none] [] [] [] [] 0 ?_;refine SR [] [none,none,none,none,some (10,true),some (10,true),some (10,true),none,none] fun _ _ g r=>?_;by_cases h1 : v1≤v0
 ·replace hF:=AaQ h1 hF;have h1_:=h1;try simp at h1_
  refine TL (A2 h1 h1_) g r [0,1,2] [(6,AV.bool (decide (v0≤v2)))] [] [] 0 ?_;simp only [Option.some.injEq] at hF;subst hF;refine AW.ret (hQ _ _ _ ?_ (AaC ?_)).1
  ·simp [Try.f70,h1,h1_]
  ·simp [h1,h1_]
 ·replace hF:=AaR h1 hF;have h1_:=h1;try simp at h1_
  refine TL (A2 h1 h1_) g r [0,1,2] [(6,AV.bool false)] [] [] 0 ?_;simp only [Option.some.injEq] at hF;subst hF;refine AW.ret (hQ _ _ _ ?_ (AaC ?_)).1
  ·simp [Try.f70,h1,h1_]
  ·simp [h1,h1_]
theorem Abk (k : Nat) (v0 : Int) (v1 : Bool) (hF : AbN k v0=some v1) :
 AbK Try.prog 88 [AV.int .i64 v0] [] (AV.bool v1) []:=by
 unfold AbN at hF;refine EN Try.func88 ?_;intro c0 w0 Q h0 hQ
 refine WK [(0,Iz v0)] [] 0 (by simp) (by simp) ?_;refine SW trivial [] [none] [] [] [] [] 0 ?_;obtain ⟨v2,h1,hF⟩:=AaF hF;refine CL trivial [] [none,none,none] (AbV k _ _ _ _ h1) [0] [(2,AV.bool v2)] [] [] 0 ?_;simp only [Option.some.injEq] at hF;subst hF;refine AW.ret (hQ _ _ _ ?_ (AaC ?_)).1
 ·simp [Try.f88]
 ·simp
abbrev AgJ (v0 : Int) (v1 : Int) (v2 : ByteArray) (v3 : Int) (v4 : Int) (v5 : Int) (v6 : Int) (v7 : Int) (v8 : (List Int)) (v9 : (List AaA)) (v10 : ByteArray) (v11 : Int) (v12 : ByteArray) : Aaq := .cells [Iz v0,Iz v1,AV.str v2,Iz v3,Iz v4,Iz v5,Iz v6,Iz v7,Lz v8,Q0 v9,AV.str v10,Iz v11,AV.str v12]
theorem AeP (k : Nat) (v0 : Int) (v1 : Int) (v2 : ByteArray) (v3 : Int) (v4 : Int) (v5 : Int) (v6 : Int) (v7 : Int) (v8 : (List Int)) (v9 : (List AaA)) (v10 : ByteArray) (v11 : Int) (v12 : ByteArray) (v13 : Bool) (hF : AcM k v0 v1 v2 v3 v4 v5 v6 v7 v8 v9 v10 v11 v12=some v13) :
 AbK Try.prog 89 [AV.agg [AV.int .i64 v0,AV.int .i64 v1,AV.str v2,AV.int .i64 v3,AV.int .i64 v4,AV.int .i64 v5,AV.int .i64 v6,AV.int .i64 v7,AV.lst false false (List.map (AV.int .i64) v8),Q0 v9,AV.str v10,AV.int .i64 v11,AV.str v12]] [] (AV.bool v13) []:=by
 unfold AcM at hF;refine EN Try.func89 ?_;intro c0 w0 Q h0 hQ
 refine WK [(0,AV.agg [Iz v0,Iz v1,AV.str v2,Iz v3,Iz v4,Iz v5,Iz v6,Iz v7,Lz v8,Q0 v9,AV.str v10,Iz v11,AV.str v12])] [] 0 (by simp) (by simp) ?_;refine SW trivial [] [none,none] [0] [(1,AV.ptr 0 0)] [] [(0,AgJ v0 v1 v2 v3 v4 v5 v6 v7 v8 v9 v10 v11 v12)] 1 ?_;refine AW.seq fun K26 hK26=>?_;refine SW trivial [] [none,none] [] [(4,Iz v4)] [] [] 1 ?_;refine AW.block ?_;refine SW trivial [] [none,none] [] [(5,AV.bool (v4==1))] [] [] 1 ?_;by_cases h1 : v4=1
 ·replace hF:=AaQ h1 hF;have h1q : v4=1:=h1;have h1_:=Abr h1q;have h1__:=Abp h1q;have F1:=A3 h1_ h1__ h1q;refine CT (by simp [F1] <;> omega) ?_;refine SR [] [none,none,none,none,some (10,true),some (10,true),some (10,true),some (10,true),some (10,true),none,none,some (17,true),some (17,true),some (17,true),none,none,some (22,true),some (22,true),some (22,true),some (22,true),some (22,true),none,none] fun _ _ g r=>?_;try simp [F1]
  and_intros
  try any_goals first | omega | (simp [maxLen,F1] <;> omega)
  obtain ⟨v14,h2,hF⟩:=AaF hF;refine AC (AbV k _ _ _ _ h2) (.cons (.same (by simp [F1])) (.cons (.same (by simp [F1])) (.cons (.same (by simp [F1])) .nil))) ?_;by_cases h3 : v14=true
  ·replace hF:=AaQ h3 hF;have h3_:=h3;try simp at h3_
   by_cases h4 : v5≠v0
   ·replace hF:=AaQ h4 hF;have h4_:=Abm h4;have h4__:=Abo h4;have F2:=A6 F1 h3 h3_ h4 h4_ h4__;try simp [F2]
    and_intros
    try any_goals first | omega | (simp [maxLen,F2] <;> omega)
    obtain ⟨v15,h5,hF⟩:=AaF hF;refine AC (AbV k _ _ _ _ h5) (.cons (.same (by simp [F2])) (.cons (.same (by simp [F2])) (.cons (.same (by simp [F2])) .nil))) ?_;by_cases h6 : v15=true
    ·replace hF:=AaQ h6 hF;have h6_:=h6;try simp at h6_
     have F3:=A3 F2 h6 h6_;try simp [F3]
     and_intros
     try any_goals first | omega | (simp [maxLen,F3] <;> omega)
     obtain ⟨v16,h7,hF⟩:=AaF hF;refine AC (AbV k _ _ _ _ h7) (.cons (.same (by simp [F3])) (.cons (.same (by simp [F3])) (.cons (.same (by simp [F3])) .nil))) ?_;refine TL F3 g r [1,4,5] [(2,AV.bool v16)] [0] [] 1 ?_;simp only [Option.some.injEq] at hF;subst hF;refine AW.ret (hQ _ _ _ ?_ (AaC ?_)).1
     ·simp [Try.f89,F3]
     ·simp [F3]
    ·replace hF:=AaR h6 hF;have h6_:=h6;try simp at h6_
     have F4:=A3 F2 h6 h6_;refine TL F4 g r [1,4,5] [(2,AV.bool false)] [0] [] 1 ?_;simp only [Option.some.injEq] at hF;subst hF;refine AW.ret (hQ _ _ _ ?_ (AaC ?_)).1
     ·simp [Try.f89,F4]
     ·simp [F4]
   ·replace hF:=AaR h4 hF;have h4q : v5=v0:=Classical.not_not.1 h4;have h4_:=Abr h4q;have h4__:=Abp h4q;have F5:=A5 F1 h3 h3_ h4_ h4__;refine TL F5 g r [1,4,5] [(2,AV.bool false)] [0] [] 1 ?_;simp only [Option.some.injEq] at hF;subst hF;refine AW.ret (hQ _ _ _ ?_ (AaC ?_)).1
    ·simp [Try.f89,F5]
    ·simp [F5]
  ·replace hF:=AaR h3 hF;have h3_:=h3;try simp at h3_
   have F6:=A3 F1 h3 h3_;refine TL F6 g r [1,4,5] [(2,AV.bool false)] [0] [] 1 ?_;simp only [Option.some.injEq] at hF;subst hF;refine AW.ret (hQ _ _ _ ?_ (AaC ?_)).1
   ·simp [Try.f89,F6]
   ·simp [F6]
 ·replace hF:=AaR h1 hF;have h1_:=Abm h1;have h1__:=Abo h1;have F7:=A3 h1 h1_ h1__;refine CF (by simp [F7] <;> omega) ?_;refine SW F7 [] [none,none] [5] [(29,AV.bool (v4==2))] [] [] 1 ?_;by_cases h8 : v4=2
  ·replace hF:=AaQ h8 hF;have h8q : v4=2:=h8;have h8_:=Abr h8q;have h8__:=Abp h8q;have F8:=A4 F7 h8_ h8__ h8q;refine CT (by simp [F8] <;> omega) ?_;refine SR [] [none,none,none,none,some (34,true),some (34,true),some (34,true),none,none,some (39,true),some (39,true),some (39,true),none,none] fun _ _ g r=>?_;try simp [F8]
   and_intros
   try any_goals first | omega | (simp [maxLen,F8] <;> omega)
   obtain ⟨v17,h9,hF⟩:=AaF hF;refine AC (AbV k _ _ _ _ h9) (.cons (.same (by simp [F8])) (.cons (.same (by simp [F8])) (.cons (.same (by simp [F8])) .nil))) ?_;by_cases h10 : v17=true
   ·replace hF:=AaQ h10 hF;have h10_:=h10;try simp at h10_
    by_cases h11 : v6=0
    ·replace hF:=AaQ h11 hF;have h11q : v6=0:=h11;have h11_:=Abr h11q;have h11__:=Abp h11q;have F9:=A6 F8 h10 h10_ h11_ h11__ h11q;refine TL F9 g r [1,4,29] [(2,AV.bool (v7==0))] [0] [] 1 ?_;simp only [Option.some.injEq] at hF;subst hF;refine AW.ret (hQ _ _ _ ?_ (AaC ?_)).1
     ·simp [Try.f89,F9]
     ·simp [F9]
    ·replace hF:=AaR h11 hF;have h11_:=Abm h11;have h11__:=Abo h11;have F10:=A6 F8 h10 h10_ h11 h11_ h11__;refine TL F10 g r [1,4,29] [(2,AV.bool false)] [0] [] 1 ?_;simp only [Option.some.injEq] at hF;subst hF;refine AW.ret (hQ _ _ _ ?_ (AaC ?_)).1
     ·simp [Try.f89,F10]
     ·simp [F10]
   ·replace hF:=AaR h10 hF;have h10_:=h10;try simp at h10_
    have F11:=A3 F8 h10 h10_;refine TL F11 g r [1,4,29] [(2,AV.bool false)] [0] [] 1 ?_;simp only [Option.some.injEq] at hF;subst hF;refine AW.ret (hQ _ _ _ ?_ (AaC ?_)).1
    ·simp [Try.f89,F11]
    ·simp [F11]
  ·replace hF:=AaR h8 hF;have h8_:=Abm h8;have h8__:=Abo h8;have F12:=A4 F7 h8 h8_ h8__;refine CF (by simp [F12] <;> omega) ?_;refine SW F12 [] [none,none] [4,29] [(44,AV.bool (v4==3))] [] [] 1 ?_;by_cases h12 : v4=3
   ·replace hF:=AaQ h12 hF;have h12q : v4=3:=h12;have h12_:=Abr h12q;have h12__:=Abp h12q;refine CT (by simp [F12,h12_,h12__,h12q] <;> omega) ?_;refine SR [] [none,none,none,none,some (49,true),some (49,true),some (49,true),none,none,some (54,true),some (54,true),some (54,true),none,none] fun _ _ g r=>?_;by_cases h13 : v5=0
    ·replace hF:=AaQ h13 hF;have h13q : v5=0:=h13;have h13_:=Abr h13q;have h13__:=Abp h13q;by_cases h14 : v6=0
     ·replace hF:=AaQ h14 hF;have h14q : v6=0:=h14;have h14_:=Abr h14q;have h14__:=Abp h14q;have F13:=A9 F12 h12_ h12__ h12q h13_ h13__ h13q h14_ (A2 h14__ h14q);refine TL F13 g r [1,44] [(2,AV.bool (v7==0))] [0] [] 1 ?_;simp only [Option.some.injEq] at hF;subst hF;refine AW.ret (hQ _ _ _ ?_ (AaC ?_)).1
      ·simp [Try.f89,F13]
      ·simp [F13]
     ·replace hF:=AaR h14 hF;have h14_:=Abm h14;have h14__:=Abo h14;have F14:=A9 F12 h12_ h12__ h12q h13_ h13__ h13q h14 (A2 h14_ h14__);refine TL F14 g r [1,44] [(2,AV.bool false)] [0] [] 1 ?_;simp only [Option.some.injEq] at hF;subst hF;refine AW.ret (hQ _ _ _ ?_ (AaC ?_)).1
      ·simp [Try.f89,F14]
      ·simp [F14]
    ·replace hF:=AaR h13 hF;have h13_:=Abm h13;have h13__:=Abo h13;have F15:=A7 F12 h12_ h12__ h12q h13 h13_ h13__;refine TL F15 g r [1,44] [(2,AV.bool false)] [0] [] 1 ?_;simp only [Option.some.injEq] at hF;subst hF;refine AW.ret (hQ _ _ _ ?_ (AaC ?_)).1
     ·simp [Try.f89,F15]
     ·simp [F15]
   ·replace hF:=AaR h12 hF;have h12_:=Abm h12;have h12__:=Abo h12;have F16:=A4 F12 h12 h12_ h12__;refine CF (by simp [F16] <;> omega) ?_;refine AW.skip ?_;refine hK26 _ _ _ ?_;refine SW F16 [] [none] [1,44] [(2,AV.bool true)] [0] [] 1 ?_;simp only [Option.some.injEq] at hF;subst hF;refine AW.ret (hQ _ _ _ ?_ (AaC ?_)).1
    ·simp [Try.f89,F16]
    ·simp [F16]
theorem Afa (k : Nat) (v0 : Int) (v1 : Bool) (hF : Acs k v0=some v1) :
 AbK Try.prog 90 [AV.int .i64 v0] [] (AV.bool v1) []:=by
 unfold Acs at hF;refine EN Try.func90 ?_;intro c0 w0 Q h0 hQ
 refine WK [(0,Iz v0)] [] 0 (by simp) (by simp) ?_;refine SW trivial [] [none] [] [] [] [] 0 ?_;obtain ⟨v2,h1,hF⟩:=AaF hF;refine CL trivial [] [none,none,none,none] (Abk k _ _ h1) [0] [(2,AV.bool (!v2))] [] [] 0 ?_;simp only [Option.some.injEq] at hF;subst hF;refine AW.ret (hQ _ _ _ ?_ (AaC ?_)).1
 ·simp [Try.f90]
 ·simp
theorem AdB (k : Nat) (v0 : (List Int)) (v1 : Int) (hF : AaU k v0=some v1) :
 AbK Try.prog 105 [AV.lst false false (List.map (AV.int .i64) v0),AV.fn 90 []] [] (AV.int .i64 v1) []:=by
 unfold AaU at hF;refine EN Try.func105 ?_;intro c0 w0 Q h0 hQ
 refine WK [(0,Lz v0),(1,AV.fn 90 [])] [] 0 (by simp) (by simp) ?_;refine SW trivial [] [none] [] [] [] [] 0 ?_;refine AW.seq fun K131 hK131=>?_;refine SW trivial [] [none,none,none] [] [(7,Iz (v0.length : Int)),(8,Iz 0)] [] [] 0 ?_;refine AW.block ?_;refine AW.loopF (α:=Int) (fun n v2=>AaU.L1 k v0 n v2=some v1) (fun v2=>[(0,Lz v0),(1,AV.fn 90 []),(7,Iz (v0.length : Int)),(8,Iz v2)]) (fun v2=>[]) 0 k (0) hF (by simp) (by simp) (by simp) ?_;rintro (_|n1) v2 hF K163 hK163
 ·try dsimp only at hF
  rw [AaU.L1] at hF; cases hF
 try dsimp only at hF
 rw [AaU.L1] at hF;refine SW trivial [] [none] [] [(9,AV.bool (decide (v2<(v0.length : Int))))] [] [] 0 ?_;refine AW.seq fun K165 hK165=>?_;by_cases h1 : v2<(v0.length : Int)
 ·replace hF:=AaQ h1 hF;have h1_:=h1;try simp at h1_
  refine CT (by simp [h1,h1_] <;> omega) ?_;refine AW.skip ?_;refine hK165 _ _ _ ?_;refine AW.seq fun K169 hK169=>?_;refine AW.block ?_;refine SW (A2 h1 h1_) [] [none,none] [] [(5,Iz v2)] [] [] 0 ?_;refine SR [] [none,none,none,none,none,none] fun _ _ g r=>?_;obtain ⟨v3,h2,h3,h4,hF⟩:=Aah hF;have h4_:=Aa7 h4;try simp at h4_
  have h3_:=h3;try simp at h3_
  have F1:=A7 h1 h1_ h2 h3 h4 h4_ h3_;try simp [F1]
  and_intros
  try any_goals first | omega | (simp [maxLen,F1] <;> omega)
  obtain ⟨v4,h5,hF⟩:=AaF hF;refine AC (Afa k _ _ h5) (.cons (.same (by simp [F1])) .nil) ?_;refine TL F1 g r [] [(16,AV.bool v4)] [] [] 0 ?_;by_cases h6 : v4=true
  ·replace hF:=AaQ h6 hF;have h6_:=h6;try simp at h6_
   have F2:=A3 F1 h6 h6_;refine CT (by simp [F2] <;> omega) ?_;refine SW F2 [] [none,none] [0,1,5,7,8,16] [(4,Iz v2)] [] [] 0 ?_;simp only [Option.some.injEq] at hF;subst hF;refine AW.ret (hQ _ _ _ ?_ (AaC ?_)).1
   ·simp [Try.f105,F2]
   ·simp [F2]
  ·replace hF:=AaR h6 hF;have h6_:=h6;try simp at h6_
   have F3:=A3 F1 h6 h6_;refine CF (by simp [F3] <;> omega) ?_;refine AW.skip ?_;refine hK169 _ _ _ ?_;refine RG [] [none,none] fun _ _ g r=>?_;try simp [F3]
   and_intros <;> first | exact GK g | apply r | omega | (simp [maxLen,F3] <;> omega)
   refine hK163 _ _ _ ?_;exact NX (k':=n1) (IntKind.wrap .i64 (v2+1)) hF (by simp [F3]) (by simp [F3])
 ·replace hF:=AaR h1 hF;have h1_:=h1;try simp at h1_
  refine CF (by simp [h1,h1_] <;> omega) ?_;refine AW.exit ?_;try simp
  refine hK131 _ _ _ ?_;refine SW (A2 h1 h1_) [] [none] [0,1,7,8] [(4,Iz (-1))] [] [] 0 ?_;simp only [Option.some.injEq] at hF;subst hF;refine AW.ret (hQ _ _ _ ?_ (AaC ?_)).1
  ·simp [Try.f105,h1,h1_]
  ·simp [h1,h1_]
theorem Ab0 (k : Nat) (v0 : (List Int)) (v1 : Bool) (hF : Aaz k v0=some v1) :
 AbK Try.prog 65 [AV.lst false false (List.map (AV.int .i64) v0),AV.fn 90 []] [] (AV.bool v1) []:=by
 unfold Aaz at hF;refine EN Try.func65 ?_;intro c0 w0 Q h0 hQ
 refine WK [(0,Lz v0),(1,AV.fn 90 [])] [] 0 (by simp) (by simp) ?_;refine SW trivial [] [none] [] [] [] [] 0 ?_;obtain ⟨v2,h1,hF⟩:=AaF hF;refine CL trivial [] [none,none,none,none,none] (AdB k _ _ h1) [0,1] [(4,AV.bool (decide (0≤v2)))] [] [] 0 ?_;simp only [Option.some.injEq] at hF;subst hF;refine AW.ret (hQ _ _ _ ?_ (AaC ?_)).1
 ·simp [Try.f65]
 ·simp
theorem Abw (k : Nat) (v0 : (List AaA)) (v1 : Bool) (hF : AaP k v0=some v1) :
 AbK Try.prog 91 [Q0 v0] [] (AV.bool v1) []:=by
 unfold AaP at hF;refine EN Try.func91 ?_;intro c0 w0 Q h0 hQ
 refine WK [(0,Q0 v0)] [] 0 (by simp) (by simp) ?_;refine SW trivial [] [none] [] [] [] [] 0 ?_;refine AW.seq fun K167 hK167=>?_;refine SW trivial [] [none,none,none] [] [(5,Q0 v0),(6,Iz (v0.length : Int)),(7,Iz 0)] [] [] 0 ?_;refine AW.block ?_;refine AW.loopF (α:=Int) (fun n v2=>AaP.L1 k v0 n v2=some v1) (fun v2=>[(0,Q0 v0),(5,Q0 v0),(6,Iz (v0.length : Int)),(7,Iz v2)]) (fun v2=>[]) 0 k (0) hF (by simp) (by simp) (by simp) ?_;rintro (_|n1) v2 hF K209 hK209
 ·try dsimp only at hF
  rw [AaP.L1] at hF; cases hF
 try dsimp only at hF
 rw [AaP.L1] at hF;refine SW trivial [] [none] [] [(8,AV.bool (decide (v2<(v0.length : Int))))] [] [] 0 ?_;refine AW.seq fun K211 hK211=>?_;by_cases h1 : v2<(v0.length : Int)
 ·replace hF:=AaQ h1 hF;have h1_:=h1;try simp at h1_
  refine CT (by simp [h1,h1_] <;> omega) ?_;refine AW.skip ?_;refine hK211 _ _ _ ?_;refine AW.seq fun K216 hK216=>?_;refine AW.block ?_;refine SR [] [none,none,none,none,none,none] fun _ _ g r=>?_;obtain ⟨v3,h2,h3,h4,hF⟩:=Aah hF;have h4_:=Aa7 h4;try simp at h4_
  have h3_:=h3;try simp at h3_
  have F1:=A7 h1 h1_ h2 h3 h4 h4_ h3_;refine TL F1 g r [] [(3,Iz v2),(4,AV.ptr 0 0)] [] [(0,.cells [Iz v3.Author,Iz v3.Height,AV.str v3.Digest])] 1 ?_;refine AW.midF (α:=Bool) (fun v4=>AaP.J2 k v2 (fun v2_=>AaP.L1 k v0 n1 v2_) v4=some v1) (fun v4=>[(0,Q0 v0),(5,Q0 v0),(6,Iz (v0.length : Int)),(7,Iz v2),(42,AV.bool v4)]) (fun v4=>[]) 0 (fun K221 hK221=>?_) ?_
  ·refine RG [] [none,none,none,none,none,some (16,false),some (16,false),some (16,false),some (19,true),some (19,true),some (19,true),some (19,true),some (19,true),some (19,true),some (19,true),some (19,true),some (19,true),some (16,false),none,none,some (31,false),some (31,false),some (31,false),some (31,false),none,none,some (37,false),some (37,false),some (37,false),some (37,false),none] fun _ _ g r=>?_;try simp [F1]
   and_intros
   try any_goals first | omega | (simp [maxLen,F1] <;> omega)
   obtain ⟨v5,h6,hF⟩:=AaF hF;refine AC (AbV k _ _ _ _ h6) (.cons (.same (by simp [F1])) (.cons (.same (by simp [F1])) (.cons (.same (by simp [F1])) .nil))) ?_;by_cases h7 : (!v5)=true
   ·replace hF:=AaQ h7 hF;have h7_:=h7;try simp at h7_
    have F2:=A3 F1 h7 h7_;try simp [F2]
    and_intros <;> first | exact GK g | apply r | omega | (simp [maxLen,F2] <;> omega)
    refine hK221 _ _ _ ?_;refine RN h0 [] [(0,Q0 v0),(5,Q0 v0),(6,Iz (v0.length : Int)),(7,Iz v2),(42,AV.bool true)] [] 0 (by simp [F2]) (by simp [F2]) ?_;exact JN (true) hF (by simp [F2]) (by simp [F2])
   ·replace hF:=AaR h7 hF;have h7_:=h7;try simp at h7_
    by_cases h8 : 0<v2
    ·replace hF:=AaQ h8 hF;have h8_:=h8;try simp at h8_
     obtain ⟨v6,h9,h10,h11,hF⟩:=Aah hF;have h11_:=Aa7 h11;try simp at h11_
     have h10_:=h10;try simp at h10_
     by_cases h12 : v3.Author≤v6.Author
     ·replace hF:=AaQ h12 hF;have h12_:=h12;try simp at h12_
      have F3:=A9 F1 h7 h7_ h8 h8_ h9 h10 h11 (A4 h11_ h10_ h12 h12_);try simp [F3]
      and_intros <;> first | exact GK g | apply r | omega | (simp [maxLen,F3] <;> omega)
      refine hK221 _ _ _ ?_;refine RN h0 [] [(0,Q0 v0),(5,Q0 v0),(6,Iz (v0.length : Int)),(7,Iz v2),(42,AV.bool true)] [] 0 (by simp [F3]) (by simp [F3]) ?_;exact JN (true) hF (by simp [F3]) (by simp [F3])
     ·replace hF:=AaR h12 hF;have h12_:=h12;try simp at h12_
      have F4:=A9 F1 h7 h7_ h8 h8_ h9 h10 h11 (A4 h11_ h10_ h12 h12_);try simp [F4]
      and_intros
      try any_goals first | omega | (simp [maxLen,F4] <;> omega)
      obtain ⟨v7,h13,hF⟩:=AaF hF;refine AC (AbV k _ _ _ _ h13) (.cons (.same (by simp [F4])) (.cons (.same (by simp [F4])) (.cons (.same (by simp [F4])) .nil))) ?_;by_cases h14 : (!v7)=true
      ·replace hF:=AaQ h14 hF;have h14_:=h14;try simp at h14_
       have F5:=A3 F4 h14 h14_;try simp [F5]
       and_intros <;> first | exact GK g | apply r | omega | (simp [maxLen,F5] <;> omega)
       refine hK221 _ _ _ ?_;refine RN h0 [] [(0,Q0 v0),(5,Q0 v0),(6,Iz (v0.length : Int)),(7,Iz v2),(42,AV.bool true)] [] 0 (by simp [F5]) (by simp [F5]) ?_;exact JN (true) hF (by simp [F5]) (by simp [F5])
      ·replace hF:=AaR h14 hF;have h14_:=h14;try simp at h14_
       have F6:=A3 F4 h14 h14_;try simp [F6]
       and_intros <;> first | exact GK g | apply r | omega | (simp [maxLen,F6] <;> omega)
       refine hK221 _ _ _ ?_;refine RN h0 [] [(0,Q0 v0),(5,Q0 v0),(6,Iz (v0.length : Int)),(7,Iz v2),(42,AV.bool ((v3.Digest.size : Int) !=32))] [] 0 (by simp [F6]) (by simp [F6]) ?_;exact JN (((v3.Digest.size : Int) !=32)) hF (by simp [F6]) (by simp [F6])
    ·replace hF:=AaR h8 hF;have h8_:=h8;try simp at h8_
     have F7:=A5 F1 h7 h7_ h8 h8_;try simp [F7]
     and_intros
     try any_goals first | omega | (simp [maxLen,F7] <;> omega)
     obtain ⟨v8,h15,hF⟩:=AaF hF;refine AC (AbV k _ _ _ _ h15) (.cons (.same (by simp [F7])) (.cons (.same (by simp [F7])) (.cons (.same (by simp [F7])) .nil))) ?_;by_cases h16 : (!v8)=true
     ·replace hF:=AaQ h16 hF;have h16_:=h16;try simp at h16_
      have F8:=A3 F7 h16 h16_;try simp [F8]
      and_intros <;> first | exact GK g | apply r | omega | (simp [maxLen,F8] <;> omega)
      refine hK221 _ _ _ ?_;refine RN h0 [] [(0,Q0 v0),(5,Q0 v0),(6,Iz (v0.length : Int)),(7,Iz v2),(42,AV.bool true)] [] 0 (by simp [F8]) (by simp [F8]) ?_;exact JN (true) hF (by simp [F8]) (by simp [F8])
     ·replace hF:=AaR h16 hF;have h16_:=h16;try simp at h16_
      have F9:=A3 F7 h16 h16_;try simp [F9]
      and_intros <;> first | exact GK g | apply r | omega | (simp [maxLen,F9] <;> omega)
      refine hK221 _ _ _ ?_;refine RN h0 [] [(0,Q0 v0),(5,Q0 v0),(6,Iz (v0.length : Int)),(7,Iz v2),(42,AV.bool ((v3.Digest.size : Int) !=32))] [] 0 (by simp [F9]) (by simp [F9]) ?_;exact JN (((v3.Digest.size : Int) !=32)) hF (by simp [F9]) (by simp [F9])
  ·rintro v4 hF
   try dsimp only at hF
   unfold AaP.J2 at hF;by_cases h5 : v4=true
   ·replace hF:=AaQ h5 hF;have h5_:=h5;try simp at h5_
    have F10:=A3 F1 h5 h5_;refine CT (by simp [F10] <;> omega) ?_;refine SW F10 [] [none] [0,5,6,7,42] [(2,AV.bool false)] [] [] 0 ?_;simp only [Option.some.injEq] at hF;subst hF;refine AW.ret (hQ _ _ _ ?_ (AaC ?_)).1
    ·simp [Try.f91,F10]
    ·simp [F10]
   ·replace hF:=AaR h5 hF;have h5_:=h5;try simp at h5_
    have F11:=A3 F1 h5 h5_;refine CF (by simp [F11] <;> omega) ?_;refine AW.skip ?_;refine hK216 _ _ _ ?_;refine RG [] [none,none] fun _ _ g r=>?_;try simp [F11]
    and_intros <;> first | exact GK g | apply r | omega | (simp [maxLen,F11] <;> omega)
    refine hK209 _ _ _ ?_;exact NX (k':=n1) (IntKind.wrap .i64 (v2+1)) hF (by simp [F11]) (by simp [F11])
 ·replace hF:=AaR h1 hF;have h1_:=h1;try simp at h1_
  refine CF (by simp [h1,h1_] <;> omega) ?_;refine AW.exit ?_;try simp
  refine hK167 _ _ _ ?_;refine SW (A2 h1 h1_) [] [none] [0,5,6,7] [(2,AV.bool true)] [] [] 0 ?_;simp only [Option.some.injEq] at hF;subst hF;refine AW.ret (hQ _ _ _ ?_ (AaC ?_)).1
  ·simp [Try.f91,h1,h1_]
  ·simp [h1,h1_]
abbrev AgK (v0 : Int) (v1 : Int) (v2 : ByteArray) (v3 : Int) (v4 : Int) (v5 : Int) (v6 : Int) (v7 : Int) (v8 : (List Int)) (v9 : (List AaA)) (v10 : ByteArray) (v11 : Int) (v12 : ByteArray) : Aaq := .cells [Iz v0,Iz v1,AV.str v2,Iz v3,Iz v4,Iz v5,Iz v6,Iz v7,Lz v8,Q0 v9,AV.str v10,Iz v11,AV.str v12]
theorem AcL (k : Nat) (v0 : Int) (v1 : Int) (v2 : ByteArray) (v3 : Int) (v4 : Int) (v5 : Int) (v6 : Int) (v7 : Int) (v8 : (List Int)) (v9 : (List AaA)) (v10 : ByteArray) (v11 : Int) (v12 : ByteArray) (v13 : Int) (hF : AaM k v0 v1 v2 v3 v4 v5 v6 v7 v8 v9 v10 v11 v12=some v13) :
 AbK Try.prog 52 [AV.agg [AV.int .i64 v0,AV.int .i64 v1,AV.str v2,AV.int .i64 v3,AV.int .i64 v4,AV.int .i64 v5,AV.int .i64 v6,AV.int .i64 v7,AV.lst false false (List.map (AV.int .i64) v8),Q0 v9,AV.str v10,AV.int .i64 v11,AV.str v12]] [] (AV.int .i64 v13) []:=by
 unfold AaM at hF;refine EN Try.func52 ?_;intro c0 w0 Q h0 hQ
 refine WK [(0,AV.agg [Iz v0,Iz v1,AV.str v2,Iz v3,Iz v4,Iz v5,Iz v6,Iz v7,Lz v8,Q0 v9,AV.str v10,Iz v11,AV.str v12])] [] 0 (by simp) (by simp) ?_;refine SW trivial [] [none,none] [0] [(1,AV.ptr 0 0)] [] [(0,AgK v0 v1 v2 v3 v4 v5 v6 v7 v8 v9 v10 v11 v12)] 1 ?_;refine SW trivial [] [none,none,none,none] [] [(3,AV.bool (decide (v4≤3)))] [] [] 1 ?_;refine AW.midF (α:=Unit) (fun _=>AaM.J1 k=some v13) (fun _=>[]) (fun _=>[]) 0 (fun K116 hK116=>?_) ?_
 ·refine AW.block ?_;obtain ⟨v14,h1,hF⟩:=AaF hF;refine CL trivial [] [none,none,none,none,none] (AbV k _ _ _ _ h1) [] [(7,AV.bool (!v14))] [] [] 1 ?_;by_cases h2 : (!v14)=true
  ·replace hF:=AaQ h2 hF;have h2_:=h2;try simp at h2_
   refine CT (by simp [h2,h2_] <;> omega) ?_;refine SW (A2 h2 h2_) [] [none] [1,3,7] [(2,Iz 4)] [0] [] 1 ?_;simp only [Option.some.injEq] at hF;subst hF;refine AW.ret (hQ _ _ _ ?_ (AaC ?_)).1
   ·simp [Try.f52,h2,h2_]
   ·simp [h2,h2_]
  ·replace hF:=AaR h2 hF;have h2_:=h2;try simp at h2_
   refine CF (by simp [h2,h2_] <;> omega) ?_;refine SR [] [none,none,none,none,none,some (17,true),some (17,true),some (17,true),some (17,true),none,none] fun _ _ g r=>?_;try simp [h2,h2_]
   and_intros
   try any_goals first | omega | (simp [h2,h2_,maxLen] <;> omega)
   obtain ⟨v15,h3,hF⟩:=AaF hF;refine AC (AbV k _ _ _ _ h3) (.cons (.same (by simp [h2,h2_])) (.cons (.same (by simp [h2,h2_])) (.cons (.same (by simp [h2,h2_])) .nil))) ?_;by_cases h4 : (!v15)=true
   ·replace hF:=AaQ h4 hF;have h4_:=h4;try simp at h4_
    have F1:=A4 h2 h2_ h4 h4_;try simp [F1]
    and_intros
    try any_goals first | omega | (simp [maxLen,F1] <;> omega)
    obtain ⟨v16,h5,hF⟩:=AaF hF;refine AC (AbV k _ _ _ _ h5) (.cons (.same (by simp [F1])) (.cons (.same (by simp [F1])) (.cons (.same (by simp [F1])) .nil))) ?_;refine TL F1 g r [7] [(12,AV.bool (!v16))] [] [] 1 ?_;by_cases h6 : (!v16)=true
    ·replace hF:=AaQ h6 hF;have h6_:=h6;try simp at h6_
     have F2:=A3 F1 h6 h6_;refine CT (by simp [F2] <;> omega) ?_;refine SW F2 [] [none] [1,3,12] [(2,Iz 5)] [0] [] 1 ?_;simp only [Option.some.injEq] at hF;subst hF;refine AW.ret (hQ _ _ _ ?_ (AaC ?_)).1
     ·simp [Try.f52,F2]
     ·simp [F2]
    ·replace hF:=AaR h6 hF;have h6_:=h6;try simp at h6_
     have F3:=A3 F1 h6 h6_;refine CF (by simp [F3] <;> omega) ?_;obtain ⟨v17,h7,hF⟩:=AaF hF;refine CL F3 [] [none,none,none,none,none] (AbV k _ _ _ _ h7) [12] [(23,AV.bool (!v17))] [] [] 1 ?_;by_cases h8 : (!v17)=true
     ·replace hF:=AaQ h8 hF;have h8_:=h8;try simp at h8_
      have F4:=A3 F3 h8 h8_;refine CT (by simp [F4] <;> omega) ?_;refine SW F4 [] [none] [1,3,23] [(2,Iz 9)] [0] [] 1 ?_;simp only [Option.some.injEq] at hF;subst hF;refine AW.ret (hQ _ _ _ ?_ (AaC ?_)).1
      ·simp [Try.f52,F4]
      ·simp [F4]
     ·replace hF:=AaR h8 hF;have h8_:=h8;try simp at h8_
      have F5:=A3 F3 h8 h8_;refine CF (by simp [F5] <;> omega) ?_;refine SR [] [none,none,none,none,none,some (33,false),some (33,false),some (33,false),some (33,false),none,none,some (39,false),some (39,false),some (39,false),some (39,false),none,none,some (45,false),some (45,false),some (45,false),some (45,false),none,none,some (51,false),some (51,false),some (51,false),none,none,some (56,false),some (56,false),some (56,false),none,none] fun _ _ g r=>?_;try simp [F5]
      and_intros
      try any_goals first | omega | (simp [maxLen,F5] <;> omega)
      obtain ⟨v18,h9,hF⟩:=AaF hF;refine AC (AbV k _ _ _ _ h9) (.cons (.same (by simp [F5])) (.cons (.same (by simp [F5])) (.cons (.same (by simp [F5])) .nil))) ?_;by_cases h10 : (!v18)=true
      ·replace hF:=AaQ h10 hF;have h10_:=h10;try simp at h10_
       have F6:=A3 F5 h10 h10_;refine TL F6 g r [23] [(28,AV.bool true)] [] [] 1 ?_;refine CT (by simp [F6]) ?_;refine SW F6 [] [none] [1,3,28] [(2,Iz 2)] [0] [] 1 ?_;simp only [Option.some.injEq] at hF;subst hF;refine AW.ret (hQ _ _ _ ?_ (AaC ?_)).1
       ·simp [Try.f52,F6]
       ·simp [F6]
      ·replace hF:=AaR h10 hF;have h10_:=h10;try simp at h10_
       have F7:=A3 F5 h10 h10_;try simp [F7]
       and_intros
       try any_goals first | omega | (simp [maxLen,F7] <;> omega)
       obtain ⟨v19,h11,hF⟩:=AaF hF;refine AC (Abk k _ _ h11) (.cons (.same (by simp [F7])) .nil) ?_;by_cases h12 : (!v19)=true
       ·replace hF:=AaQ h12 hF;have h12_:=h12;try simp at h12_
        have F8:=A3 F7 h12 h12_;refine TL F8 g r [23] [(28,AV.bool true)] [] [] 1 ?_;refine CT (by simp [F8]) ?_;refine SW F8 [] [none] [1,3,28] [(2,Iz 2)] [0] [] 1 ?_;simp only [Option.some.injEq] at hF;subst hF;refine AW.ret (hQ _ _ _ ?_ (AaC ?_)).1
        ·simp [Try.f52,F8]
        ·simp [F8]
       ·replace hF:=AaR h12 hF;have h12_:=h12;try simp at h12_
        have F9:=A3 F7 h12 h12_;try simp [F9]
        and_intros
        try any_goals first | omega | (simp [maxLen,F9] <;> omega)
        obtain ⟨v20,h13,hF⟩:=AaF hF;refine AC (Abk k _ _ h13) (.cons (.same (by simp [F9])) .nil) ?_;by_cases h14 : (!v20)=true
        ·replace hF:=AaQ h14 hF;have h14_:=h14;try simp at h14_
         have F10:=A3 F9 h14 h14_;refine TL F10 g r [23] [(28,AV.bool true)] [] [] 1 ?_;refine CT (by simp [F10]) ?_;refine SW F10 [] [none] [1,3,28] [(2,Iz 2)] [0] [] 1 ?_;simp only [Option.some.injEq] at hF;subst hF;refine AW.ret (hQ _ _ _ ?_ (AaC ?_)).1
         ·simp [Try.f52,F10]
         ·simp [F10]
        ·replace hF:=AaR h14 hF;have h14_:=h14;try simp at h14_
         have F11:=A3 F9 h14 h14_;try simp [F11]
         and_intros
         try any_goals first | omega | (simp [maxLen,F11] <;> omega)
         obtain ⟨v21,h15,hF⟩:=AaF hF;refine AC (Abk k _ _ h15) (.cons (.same (by simp [F11])) .nil) ?_;by_cases h16 : (!v21)=true
         ·replace hF:=AaQ h16 hF;have h16_:=h16;try simp at h16_
          have F12:=A3 F11 h16 h16_;refine TL F12 g r [23] [(28,AV.bool true)] [] [] 1 ?_;refine CT (by simp [F12]) ?_;refine SW F12 [] [none] [1,3,28] [(2,Iz 2)] [0] [] 1 ?_;simp only [Option.some.injEq] at hF;subst hF;refine AW.ret (hQ _ _ _ ?_ (AaC ?_)).1
          ·simp [Try.f52,F12]
          ·simp [F12]
         ·replace hF:=AaR h16 hF;have h16_:=h16;try simp at h16_
          have F13:=A3 F11 h16 h16_;try simp [F13]
          and_intros
          try any_goals first | omega | (simp [maxLen,F13] <;> omega)
          obtain ⟨v22,h17,hF⟩:=AaF hF;refine AC (AeP k _ _ _ _ _ _ _ _ _ _ _ _ _ _ h17) (.cons (.same (by simp [F13])) .nil) ?_;by_cases h18 : (!v22)=true
          ·replace hF:=AaQ h18 hF;have h18_:=h18;try simp at h18_
           have F14:=A3 F13 h18 h18_;refine TL F14 g r [23] [(28,AV.bool true)] [] [] 1 ?_;refine CT (by simp [F14]) ?_;refine SW F14 [] [none] [1,3,28] [(2,Iz 2)] [0] [] 1 ?_;simp only [Option.some.injEq] at hF;subst hF;refine AW.ret (hQ _ _ _ ?_ (AaC ?_)).1
           ·simp [Try.f52,F14]
           ·simp [F14]
          ·replace hF:=AaR h18 hF;have h18_:=h18;try simp at h18_
           have F15:=A3 F13 h18 h18_;try simp [F15]
           and_intros
           try any_goals first | omega | (simp [maxLen,F15] <;> omega)
           obtain ⟨v23,h19,hF⟩:=AaF hF;refine AC (Ab0 k _ _ h19) (.cons (.same (by simp [F15])) (.cons (.same (by simp [F15])) .nil)) ?_;refine TL F15 g r [23] [(28,AV.bool v23)] [] [] 1 ?_;by_cases h20 : v23=true
           ·replace hF:=AaQ h20 hF;have h20_:=h20;try simp at h20_
            have F16:=A3 F15 h20 h20_;refine CT (by simp [F16] <;> omega) ?_;refine SW F16 [] [none] [1,3,28] [(2,Iz 2)] [0] [] 1 ?_;simp only [Option.some.injEq] at hF;subst hF;refine AW.ret (hQ _ _ _ ?_ (AaC ?_)).1
            ·simp [Try.f52,F16]
            ·simp [F16]
           ·replace hF:=AaR h20 hF;have h20_:=h20;try simp at h20_
            have F17:=A3 F15 h20 h20_;refine CF (by simp [F17] <;> omega) ?_;refine SR [] [none,none,none,none,none,some (66,false),some (66,false),some (66,false),some (66,false),none,none,some (72,false),some (72,false),some (72,false),some (72,false),none,none] fun _ _ g r=>?_;by_cases h21 : 64<(v8.length : Int)
            ·replace hF:=AaQ h21 hF;have h21_:=h21;try simp at h21_
             have F18:=A3 F17 h21 h21_;refine TL F18 g r [28] [(61,AV.bool true)] [] [] 1 ?_;refine CT (by simp [F18]) ?_;refine SW F18 [] [none] [1,3,61] [(2,Iz 3)] [0] [] 1 ?_;simp only [Option.some.injEq] at hF;subst hF;refine AW.ret (hQ _ _ _ ?_ (AaC ?_)).1
             ·simp [Try.f52,F18]
             ·simp [F18]
            ·replace hF:=AaR h21 hF;have h21_:=h21;try simp at h21_
             by_cases h22 : 64<(v9.length : Int)
             ·replace hF:=AaQ h22 hF;have h22_:=h22;try simp at h22_
              have F19:=A5 F17 h21 h21_ h22 h22_;refine TL F19 g r [28] [(61,AV.bool true)] [] [] 1 ?_;refine CT (by simp [F19]) ?_;refine SW F19 [] [none] [1,3,61] [(2,Iz 3)] [0] [] 1 ?_;simp only [Option.some.injEq] at hF;subst hF;refine AW.ret (hQ _ _ _ ?_ (AaC ?_)).1
              ·simp [Try.f52,F19]
              ·simp [F19]
             ·replace hF:=AaR h22 hF;have h22_:=h22;try simp at h22_
              have F20:=A5 F17 h21 h21_ h22 h22_;refine TL F20 g r [28] [(61,AV.bool (decide (4096<(v10.size : Int))))] [] [] 1 ?_;by_cases h23 : 4096<(v10.size : Int)
              ·replace hF:=AaQ h23 hF;have h23_:=h23;try simp at h23_
               have F21:=A3 F20 h23 h23_;refine CT (by simp [F21] <;> omega) ?_;refine SW F21 [] [none] [1,3,61] [(2,Iz 3)] [0] [] 1 ?_;simp only [Option.some.injEq] at hF;subst hF;refine AW.ret (hQ _ _ _ ?_ (AaC ?_)).1
               ·simp [Try.f52,F21]
               ·simp [F21]
              ·replace hF:=AaR h23 hF;have h23_:=h23;try simp at h23_
               have F22:=A3 F20 h23 h23_;refine CF (by simp [F22] <;> omega) ?_;refine AW.midF (α:=Bool) (fun v24=>AaM.J2 k v24=some v13) (fun v24=>[(78,AV.bool v24)]) (fun v24=>[]) 0 (fun K136 hK136=>?_) ?_
               ·refine RG [] [none,none,none,none,some (82,true),some (82,true),some (82,true),none,none,some (87,false),some (87,false),some (87,false),some (87,false),some (91,true),some (91,true),some (91,true),some (91,true),some (87,false),none,none,some (98,false),some (98,false),some (98,false),some (98,false),none,none,some (104,false),some (104,false),some (106,true),some (106,true),some (106,true),some (106,true),some (106,true),some (106,true),some (106,true),some (106,true),some (106,true),some (106,true),some (106,true),some (106,true),some (104,false),none,none] fun _ _ g r=>?_;by_cases h25 : v1=0
                ·replace hF:=AaQ h25 hF;have h25q : v1=0:=h25;have h25_:=Abr h25q;have h25__:=Abp h25q;by_cases h26 : (!AbZ v2 (ByteArray.mk #[]))=true
                 ·replace hF:=AaQ h26 hF;have h26_:=h26;try simp at h26_
                  have F23:=A6 F22 h25_ h25__ h25q h26 h26_;try simp [F23]
                  and_intros <;> first | exact GK g | apply r | omega | (simp [maxLen,F23] <;> omega)
                  refine hK136 _ _ _ ?_;refine RN h0 [] [(78,AV.bool true)] [] 0 (by simp [F23]) (by simp [F23]) ?_;exact JN (true) hF (by simp [F23]) (by simp [F23])
                 ·replace hF:=AaR h26 hF;have h26_:=h26;try simp at h26_
                  by_cases h27 : 0<v1
                  ·replace hF:=AaQ h27 hF;have h27_:=h27;try simp at h27_
                   cases hF
                  ·replace hF:=AaR h27 hF;have h27_:=h27;try simp at h27_
                   have F24:=A8 F22 h25_ h25__ h25q h26 h26_ h27 h27_;try simp [F24]
                   and_intros
                   try any_goals first | omega | (simp [maxLen,F24] <;> omega)
                   obtain ⟨v25,h28,hF⟩:=AaF hF;refine AC (Abw k _ _ h28) (.cons (.same (by simp [F24])) .nil) ?_;by_cases h29 : (!v25)=true
                   ·replace hF:=AaQ h29 hF;have h29_:=h29;try simp at h29_
                    have F25:=A3 F24 h29 h29_;try simp [F25]
                    and_intros <;> first | exact GK g | apply r | omega | (simp [maxLen,F25] <;> omega)
                    refine hK136 _ _ _ ?_;refine RN h0 [] [(78,AV.bool true)] [] 0 (by simp [F25]) (by simp [F25]) ?_;exact JN (true) hF (by simp [F25]) (by simp [F25])
                   ·replace hF:=AaR h29 hF;have h29_:=h29;try simp at h29_
                    by_cases h30 : v4≤3
                    ·replace hF:=AaQ h30 hF;have h30_:=h30;try simp at h30_
                     have F26:=A5 F24 h29 h29_ h30 h30_;try simp [F26]
                     and_intros <;> first | exact GK g | apply r | omega | (simp [maxLen,F26] <;> omega)
                     refine hK136 _ _ _ ?_;refine RN h0 [] [(78,AV.bool (decide (0<IntKind.wrap .i64 (IntKind.wrap .i64 ((v8.length : Int)+(v9.length : Int))+(v10.size : Int)))))] [] 0 (by simp [F26]) (by simp [F26]) ?_;exact JN ((decide (0<IntKind.wrap .i64 (IntKind.wrap .i64 ((v8.length : Int)+(v9.length : Int))+(v10.size : Int))))) hF (by simp [F26]) (by simp [F26])
                    ·replace hF:=AaR h30 hF;have h30_:=h30;try simp at h30_
                     have F27:=A5 F24 h29 h29_ h30 h30_;try simp [F27]
                     and_intros <;> first | exact GK g | apply r | omega | (simp [maxLen,F27] <;> omega)
                     refine hK136 _ _ _ ?_;refine RN h0 [] [(78,AV.bool false)] [] 0 (by simp [F27]) (by simp [F27]) ?_;exact JN (false) hF (by simp [F27]) (by simp [F27])
                ·replace hF:=AaR h25 hF;have h25_:=Abm h25;have h25__:=Abo h25;by_cases h31 : 0<v1
                 ·replace hF:=AaQ h31 hF;have h31_:=h31;try simp at h31_
                  by_cases h32 : (v2.size : Int)≠32
                  ·replace hF:=AaQ h32 hF;have h32_:=Abm h32;have h32__:=Abo h32;have F28:=A9 F22 h25 h25_ h25__ h31 h31_ h32 h32_ h32__;try simp [F28]
                   and_intros <;> first | exact GK g | apply r | omega | (simp [maxLen,F28] <;> omega)
                   refine hK136 _ _ _ ?_;refine RN h0 [] [(78,AV.bool true)] [] 0 (by simp [F28]) (by simp [F28]) ?_;exact JN (true) hF (by simp [F28]) (by simp [F28])
                  ·replace hF:=AaR h32 hF;have h32q : (v2.size : Int)=32:=Classical.not_not.1 h32;have h32_:=Abr h32q;have h32__:=Abp h32q;have F29:=A9 F22 h25 h25_ h25__ h31 h31_ h32_ h32__ h32q;try simp [F29]
                   and_intros
                   try any_goals first | omega | (simp [maxLen,F29] <;> omega)
                   obtain ⟨v26,h33,hF⟩:=AaF hF;refine AC (Abw k _ _ h33) (.cons (.same (by simp [F29])) .nil) ?_;by_cases h34 : (!v26)=true
                   ·replace hF:=AaQ h34 hF;have h34_:=h34;try simp at h34_
                    have F30:=A3 F29 h34 h34_;try simp [F30]
                    and_intros <;> first | exact GK g | apply r | omega | (simp [maxLen,F30] <;> omega)
                    refine hK136 _ _ _ ?_;refine RN h0 [] [(78,AV.bool true)] [] 0 (by simp [F30]) (by simp [F30]) ?_;exact JN (true) hF (by simp [F30]) (by simp [F30])
                   ·replace hF:=AaR h34 hF;have h34_:=h34;try simp at h34_
                    by_cases h35 : v4≤3
                    ·replace hF:=AaQ h35 hF;have h35_:=h35;try simp at h35_
                     have F31:=A5 F29 h34 h34_ h35 h35_;try simp [F31]
                     and_intros <;> first | exact GK g | apply r | omega | (simp [maxLen,F31] <;> omega)
                     refine hK136 _ _ _ ?_;refine RN h0 [] [(78,AV.bool (decide (0<IntKind.wrap .i64 (IntKind.wrap .i64 ((v8.length : Int)+(v9.length : Int))+(v10.size : Int)))))] [] 0 (by simp [F31]) (by simp [F31]) ?_;exact JN ((decide (0<IntKind.wrap .i64 (IntKind.wrap .i64 ((v8.length : Int)+(v9.length : Int))+(v10.size : Int))))) hF (by simp [F31]) (by simp [F31])
                    ·replace hF:=AaR h35 hF;have h35_:=h35;try simp at h35_
                     have F32:=A5 F29 h34 h34_ h35 h35_;try simp [F32]
                     and_intros <;> first | exact GK g | apply r | omega | (simp [maxLen,F32] <;> omega)
                     refine hK136 _ _ _ ?_;refine RN h0 [] [(78,AV.bool false)] [] 0 (by simp [F32]) (by simp [F32]) ?_;exact JN (false) hF (by simp [F32]) (by simp [F32])
                 ·replace hF:=AaR h31 hF;have h31_:=h31;try simp at h31_
                  have F33:=A6 F22 h25 h25_ h25__ h31 h31_;try simp [F33]
                  and_intros
                  try any_goals first | omega | (simp [maxLen,F33] <;> omega)
                  obtain ⟨v27,h36,hF⟩:=AaF hF;refine AC (Abw k _ _ h36) (.cons (.same (by simp [F33])) .nil) ?_;by_cases h37 : (!v27)=true
                  ·replace hF:=AaQ h37 hF;have h37_:=h37;try simp at h37_
                   have F34:=A3 F33 h37 h37_;try simp [F34]
                   and_intros <;> first | exact GK g | apply r | omega | (simp [maxLen,F34] <;> omega)
                   refine hK136 _ _ _ ?_;refine RN h0 [] [(78,AV.bool true)] [] 0 (by simp [F34]) (by simp [F34]) ?_;exact JN (true) hF (by simp [F34]) (by simp [F34])
                  ·replace hF:=AaR h37 hF;have h37_:=h37;try simp at h37_
                   by_cases h38 : v4≤3
                   ·replace hF:=AaQ h38 hF;have h38_:=h38;try simp at h38_
                    have F35:=A5 F33 h37 h37_ h38 h38_;try simp [F35]
                    and_intros <;> first | exact GK g | apply r | omega | (simp [maxLen,F35] <;> omega)
                    refine hK136 _ _ _ ?_;refine RN h0 [] [(78,AV.bool (decide (0<IntKind.wrap .i64 (IntKind.wrap .i64 ((v8.length : Int)+(v9.length : Int))+(v10.size : Int)))))] [] 0 (by simp [F35]) (by simp [F35]) ?_;exact JN ((decide (0<IntKind.wrap .i64 (IntKind.wrap .i64 ((v8.length : Int)+(v9.length : Int))+(v10.size : Int))))) hF (by simp [F35]) (by simp [F35])
                   ·replace hF:=AaR h38 hF;have h38_:=h38;try simp at h38_
                    have F36:=A5 F33 h37 h37_ h38 h38_;try simp [F36]
                    and_intros <;> first | exact GK g | apply r | omega | (simp [maxLen,F36] <;> omega)
                    refine hK136 _ _ _ ?_;refine RN h0 [] [(78,AV.bool false)] [] 0 (by simp [F36]) (by simp [F36]) ?_;exact JN (false) hF (by simp [F36]) (by simp [F36])
               ·rintro v24 hF
                try dsimp only at hF
                unfold AaM.J2 at hF;by_cases h24 : v24=true
                ·replace hF:=AaQ h24 hF;have h24_:=h24;try simp at h24_
                 have F37:=A3 F22 h24 h24_;refine CT (by simp [F37] <;> omega) ?_;refine SW F37 [] [none] [78] [(2,Iz 1)] [] [] 0 ?_;simp only [Option.some.injEq] at hF;subst hF;refine AW.ret (hQ _ _ _ ?_ (AaC ?_)).1
                 ·simp [Try.f52,F37]
                 ·simp [F37]
                ·replace hF:=AaR h24 hF;have h24_:=h24;try simp at h24_
                 have F38:=A3 F22 h24 h24_;refine CF (by simp [F38] <;> omega) ?_;refine AW.skip ?_;refine hK116 _ _ _ ?_;exact JN (()) hF (by simp [F38]) (by simp [F38])
   ·replace hF:=AaR h4 hF;have h4_:=h4;try simp at h4_
    have F39:=A4 h2 h2_ h4 h4_;refine TL F39 g r [7] [(12,AV.bool false)] [] [] 1 ?_;refine CF (by simp [F39]) ?_;obtain ⟨v28,h39,hF⟩:=AaF hF;refine CL F39 [] [none,none,none,none,none] (AbV k _ _ _ _ h39) [12] [(23,AV.bool (!v28))] [] [] 1 ?_;by_cases h40 : (!v28)=true
    ·replace hF:=AaQ h40 hF;have h40_:=h40;try simp at h40_
     have F40:=A3 F39 h40 h40_;refine CT (by simp [F40] <;> omega) ?_;refine SW F40 [] [none] [1,3,23] [(2,Iz 9)] [0] [] 1 ?_;simp only [Option.some.injEq] at hF;subst hF;refine AW.ret (hQ _ _ _ ?_ (AaC ?_)).1
     ·simp [Try.f52,F40]
     ·simp [F40]
    ·replace hF:=AaR h40 hF;have h40_:=h40;try simp at h40_
     have F41:=A3 F39 h40 h40_;refine CF (by simp [F41] <;> omega) ?_;refine SR [] [none,none,none,none,none,some (33,false),some (33,false),some (33,false),some (33,false),none,none,some (39,false),some (39,false),some (39,false),some (39,false),none,none,some (45,false),some (45,false),some (45,false),some (45,false),none,none,some (51,false),some (51,false),some (51,false),none,none,some (56,false),some (56,false),some (56,false),none,none] fun _ _ g r=>?_;try simp [F41]
     and_intros
     try any_goals first | omega | (simp [maxLen,F41] <;> omega)
     obtain ⟨v29,h41,hF⟩:=AaF hF;refine AC (AbV k _ _ _ _ h41) (.cons (.same (by simp [F41])) (.cons (.same (by simp [F41])) (.cons (.same (by simp [F41])) .nil))) ?_;by_cases h42 : (!v29)=true
     ·replace hF:=AaQ h42 hF;have h42_:=h42;try simp at h42_
      have F42:=A3 F41 h42 h42_;refine TL F42 g r [23] [(28,AV.bool true)] [] [] 1 ?_;refine CT (by simp [F42]) ?_;refine SW F42 [] [none] [1,3,28] [(2,Iz 2)] [0] [] 1 ?_;simp only [Option.some.injEq] at hF;subst hF;refine AW.ret (hQ _ _ _ ?_ (AaC ?_)).1
      ·simp [Try.f52,F42]
      ·simp [F42]
     ·replace hF:=AaR h42 hF;have h42_:=h42;try simp at h42_
      have F43:=A3 F41 h42 h42_;try simp [F43]
      and_intros
      try any_goals first | omega | (simp [maxLen,F43] <;> omega)
      obtain ⟨v30,h43,hF⟩:=AaF hF;refine AC (Abk k _ _ h43) (.cons (.same (by simp [F43])) .nil) ?_;by_cases h44 : (!v30)=true
      ·replace hF:=AaQ h44 hF;have h44_:=h44;try simp at h44_
       have F44:=A3 F43 h44 h44_;refine TL F44 g r [23] [(28,AV.bool true)] [] [] 1 ?_;refine CT (by simp [F44]) ?_;refine SW F44 [] [none] [1,3,28] [(2,Iz 2)] [0] [] 1 ?_;simp only [Option.some.injEq] at hF;subst hF;refine AW.ret (hQ _ _ _ ?_ (AaC ?_)).1
       ·simp [Try.f52,F44]
       ·simp [F44]
      ·replace hF:=AaR h44 hF;have h44_:=h44;try simp at h44_
       have F45:=A3 F43 h44 h44_;try simp [F45]
       and_intros
       try any_goals first | omega | (simp [maxLen,F45] <;> omega)
       obtain ⟨v31,h45,hF⟩:=AaF hF;refine AC (Abk k _ _ h45) (.cons (.same (by simp [F45])) .nil) ?_;by_cases h46 : (!v31)=true
       ·replace hF:=AaQ h46 hF;have h46_:=h46;try simp at h46_
        have F46:=A3 F45 h46 h46_;refine TL F46 g r [23] [(28,AV.bool true)] [] [] 1 ?_;refine CT (by simp [F46]) ?_;refine SW F46 [] [none] [1,3,28] [(2,Iz 2)] [0] [] 1 ?_;simp only [Option.some.injEq] at hF;subst hF;refine AW.ret (hQ _ _ _ ?_ (AaC ?_)).1
        ·simp [Try.f52,F46]
        ·simp [F46]
       ·replace hF:=AaR h46 hF;have h46_:=h46;try simp at h46_
        have F47:=A3 F45 h46 h46_;try simp [F47]
        and_intros
        try any_goals first | omega | (simp [maxLen,F47] <;> omega)
        obtain ⟨v32,h47,hF⟩:=AaF hF;refine AC (Abk k _ _ h47) (.cons (.same (by simp [F47])) .nil) ?_;by_cases h48 : (!v32)=true
        ·replace hF:=AaQ h48 hF;have h48_:=h48;try simp at h48_
         have F48:=A3 F47 h48 h48_;refine TL F48 g r [23] [(28,AV.bool true)] [] [] 1 ?_;refine CT (by simp [F48]) ?_;refine SW F48 [] [none] [1,3,28] [(2,Iz 2)] [0] [] 1 ?_;simp only [Option.some.injEq] at hF;subst hF;refine AW.ret (hQ _ _ _ ?_ (AaC ?_)).1
         ·simp [Try.f52,F48]
         ·simp [F48]
        ·replace hF:=AaR h48 hF;have h48_:=h48;try simp at h48_
         have F49:=A3 F47 h48 h48_;try simp [F49]
         and_intros
         try any_goals first | omega | (simp [maxLen,F49] <;> omega)
         obtain ⟨v33,h49,hF⟩:=AaF hF;refine AC (AeP k _ _ _ _ _ _ _ _ _ _ _ _ _ _ h49) (.cons (.same (by simp [F49])) .nil) ?_;by_cases h50 : (!v33)=true
         ·replace hF:=AaQ h50 hF;have h50_:=h50;try simp at h50_
          have F50:=A3 F49 h50 h50_;refine TL F50 g r [23] [(28,AV.bool true)] [] [] 1 ?_;refine CT (by simp [F50]) ?_;refine SW F50 [] [none] [1,3,28] [(2,Iz 2)] [0] [] 1 ?_;simp only [Option.some.injEq] at hF;subst hF;refine AW.ret (hQ _ _ _ ?_ (AaC ?_)).1
          ·simp [Try.f52,F50]
          ·simp [F50]
         ·replace hF:=AaR h50 hF;have h50_:=h50;try simp at h50_
          have F51:=A3 F49 h50 h50_;try simp [F51]
          and_intros
          try any_goals first | omega | (simp [maxLen,F51] <;> omega)
          obtain ⟨v34,h51,hF⟩:=AaF hF;refine AC (Ab0 k _ _ h51) (.cons (.same (by simp [F51])) (.cons (.same (by simp [F51])) .nil)) ?_;refine TL F51 g r [23] [(28,AV.bool v34)] [] [] 1 ?_;by_cases h52 : v34=true
          ·replace hF:=AaQ h52 hF;have h52_:=h52;try simp at h52_
           have F52:=A3 F51 h52 h52_;refine CT (by simp [F52] <;> omega) ?_;refine SW F52 [] [none] [1,3,28] [(2,Iz 2)] [0] [] 1 ?_;simp only [Option.some.injEq] at hF;subst hF;refine AW.ret (hQ _ _ _ ?_ (AaC ?_)).1
           ·simp [Try.f52,F52]
           ·simp [F52]
          ·replace hF:=AaR h52 hF;have h52_:=h52;try simp at h52_
           have F53:=A3 F51 h52 h52_;refine CF (by simp [F53] <;> omega) ?_;refine SR [] [none,none,none,none,none,some (66,false),some (66,false),some (66,false),some (66,false),none,none,some (72,false),some (72,false),some (72,false),some (72,false),none,none] fun _ _ g r=>?_;by_cases h53 : 64<(v8.length : Int)
           ·replace hF:=AaQ h53 hF;have h53_:=h53;try simp at h53_
            have F54:=A3 F53 h53 h53_;refine TL F54 g r [28] [(61,AV.bool true)] [] [] 1 ?_;refine CT (by simp [F54]) ?_;refine SW F54 [] [none] [1,3,61] [(2,Iz 3)] [0] [] 1 ?_;simp only [Option.some.injEq] at hF;subst hF;refine AW.ret (hQ _ _ _ ?_ (AaC ?_)).1
            ·simp [Try.f52,F54]
            ·simp [F54]
           ·replace hF:=AaR h53 hF;have h53_:=h53;try simp at h53_
            by_cases h54 : 64<(v9.length : Int)
            ·replace hF:=AaQ h54 hF;have h54_:=h54;try simp at h54_
             have F55:=A5 F53 h53 h53_ h54 h54_;refine TL F55 g r [28] [(61,AV.bool true)] [] [] 1 ?_;refine CT (by simp [F55]) ?_;refine SW F55 [] [none] [1,3,61] [(2,Iz 3)] [0] [] 1 ?_;simp only [Option.some.injEq] at hF;subst hF;refine AW.ret (hQ _ _ _ ?_ (AaC ?_)).1
             ·simp [Try.f52,F55]
             ·simp [F55]
            ·replace hF:=AaR h54 hF;have h54_:=h54;try simp at h54_
             have F56:=A5 F53 h53 h53_ h54 h54_;refine TL F56 g r [28] [(61,AV.bool (decide (4096<(v10.size : Int))))] [] [] 1 ?_;by_cases h55 : 4096<(v10.size : Int)
             ·replace hF:=AaQ h55 hF;have h55_:=h55;try simp at h55_
              have F57:=A3 F56 h55 h55_;refine CT (by simp [F57] <;> omega) ?_;refine SW F57 [] [none] [1,3,61] [(2,Iz 3)] [0] [] 1 ?_;simp only [Option.some.injEq] at hF;subst hF;refine AW.ret (hQ _ _ _ ?_ (AaC ?_)).1
              ·simp [Try.f52,F57]
              ·simp [F57]
             ·replace hF:=AaR h55 hF;have h55_:=h55;try simp at h55_
              have F58:=A3 F56 h55 h55_;refine CF (by simp [F58] <;> omega) ?_;refine AW.midF (α:=Bool) (fun v35=>AaM.J3 k v35=some v13) (fun v35=>[(78,AV.bool v35)]) (fun v35=>[]) 0 (fun K152 hK152=>?_) ?_
              ·refine RG [] [none,none,none,none,some (82,true),some (82,true),some (82,true),none,none,some (87,false),some (87,false),some (87,false),some (87,false),some (91,true),some (91,true),some (91,true),some (91,true),some (87,false),none,none,some (98,false),some (98,false),some (98,false),some (98,false),none,none,some (104,false),some (104,false),some (106,true),some (106,true),some (106,true),some (106,true),some (106,true),some (106,true),some (106,true),some (106,true),some (106,true),some (106,true),some (106,true),some (106,true),some (104,false),none,none] fun _ _ g r=>?_;by_cases h57 : v1=0
               ·replace hF:=AaQ h57 hF;have h57q : v1=0:=h57;have h57_:=Abr h57q;have h57__:=Abp h57q;by_cases h58 : (!AbZ v2 (ByteArray.mk #[]))=true
                ·replace hF:=AaQ h58 hF;have h58_:=h58;try simp at h58_
                 have F59:=A6 F58 h57_ h57__ h57q h58 h58_;try simp [F59]
                 and_intros <;> first | exact GK g | apply r | omega | (simp [maxLen,F59] <;> omega)
                 refine hK152 _ _ _ ?_;refine RN h0 [] [(78,AV.bool true)] [] 0 (by simp [F59]) (by simp [F59]) ?_;exact JN (true) hF (by simp [F59]) (by simp [F59])
                ·replace hF:=AaR h58 hF;have h58_:=h58;try simp at h58_
                 by_cases h59 : 0<v1
                 ·replace hF:=AaQ h59 hF;have h59_:=h59;try simp at h59_
                  cases hF
                 ·replace hF:=AaR h59 hF;have h59_:=h59;try simp at h59_
                  have F60:=A8 F58 h57_ h57__ h57q h58 h58_ h59 h59_;try simp [F60]
                  and_intros
                  try any_goals first | omega | (simp [maxLen,F60] <;> omega)
                  obtain ⟨v36,h60,hF⟩:=AaF hF;refine AC (Abw k _ _ h60) (.cons (.same (by simp [F60])) .nil) ?_;by_cases h61 : (!v36)=true
                  ·replace hF:=AaQ h61 hF;have h61_:=h61;try simp at h61_
                   have F61:=A3 F60 h61 h61_;try simp [F61]
                   and_intros <;> first | exact GK g | apply r | omega | (simp [maxLen,F61] <;> omega)
                   refine hK152 _ _ _ ?_;refine RN h0 [] [(78,AV.bool true)] [] 0 (by simp [F61]) (by simp [F61]) ?_;exact JN (true) hF (by simp [F61]) (by simp [F61])
                  ·replace hF:=AaR h61 hF;have h61_:=h61;try simp at h61_
                   by_cases h62 : v4≤3
                   ·replace hF:=AaQ h62 hF;have h62_:=h62;try simp at h62_
                    have F62:=A5 F60 h61 h61_ h62 h62_;try simp [F62]
                    and_intros <;> first | exact GK g | apply r | omega | (simp [maxLen,F62] <;> omega)
                    refine hK152 _ _ _ ?_;refine RN h0 [] [(78,AV.bool (decide (0<IntKind.wrap .i64 (IntKind.wrap .i64 ((v8.length : Int)+(v9.length : Int))+(v10.size : Int)))))] [] 0 (by simp [F62]) (by simp [F62]) ?_;exact JN ((decide (0<IntKind.wrap .i64 (IntKind.wrap .i64 ((v8.length : Int)+(v9.length : Int))+(v10.size : Int))))) hF (by simp [F62]) (by simp [F62])
                   ·replace hF:=AaR h62 hF;have h62_:=h62;try simp at h62_
                    have F63:=A5 F60 h61 h61_ h62 h62_;try simp [F63]
                    and_intros <;> first | exact GK g | apply r | omega | (simp [maxLen,F63] <;> omega)
                    refine hK152 _ _ _ ?_;refine RN h0 [] [(78,AV.bool false)] [] 0 (by simp [F63]) (by simp [F63]) ?_;exact JN (false) hF (by simp [F63]) (by simp [F63])
               ·replace hF:=AaR h57 hF;have h57_:=Abm h57;have h57__:=Abo h57;by_cases h63 : 0<v1
                ·replace hF:=AaQ h63 hF;have h63_:=h63;try simp at h63_
                 by_cases h64 : (v2.size : Int)≠32
                 ·replace hF:=AaQ h64 hF;have h64_:=Abm h64;have h64__:=Abo h64;have F64:=A9 F58 h57 h57_ h57__ h63 h63_ h64 h64_ h64__;try simp [F64]
                  and_intros <;> first | exact GK g | apply r | omega | (simp [maxLen,F64] <;> omega)
                  refine hK152 _ _ _ ?_;refine RN h0 [] [(78,AV.bool true)] [] 0 (by simp [F64]) (by simp [F64]) ?_;exact JN (true) hF (by simp [F64]) (by simp [F64])
                 ·replace hF:=AaR h64 hF;have h64q : (v2.size : Int)=32:=Classical.not_not.1 h64;have h64_:=Abr h64q;have h64__:=Abp h64q;have F65:=A9 F58 h57 h57_ h57__ h63 h63_ h64_ h64__ h64q;try simp [F65]
                  and_intros
                  try any_goals first | omega | (simp [maxLen,F65] <;> omega)
                  obtain ⟨v37,h65,hF⟩:=AaF hF;refine AC (Abw k _ _ h65) (.cons (.same (by simp [F65])) .nil) ?_;by_cases h66 : (!v37)=true
                  ·replace hF:=AaQ h66 hF;have h66_:=h66;try simp at h66_
                   have F66:=A3 F65 h66 h66_;try simp [F66]
                   and_intros <;> first | exact GK g | apply r | omega | (simp [maxLen,F66] <;> omega)
                   refine hK152 _ _ _ ?_;refine RN h0 [] [(78,AV.bool true)] [] 0 (by simp [F66]) (by simp [F66]) ?_;exact JN (true) hF (by simp [F66]) (by simp [F66])
                  ·replace hF:=AaR h66 hF;have h66_:=h66;try simp at h66_
                   by_cases h67 : v4≤3
                   ·replace hF:=AaQ h67 hF;have h67_:=h67;try simp at h67_
                    have F67:=A5 F65 h66 h66_ h67 h67_;try simp [F67]
                    and_intros <;> first | exact GK g | apply r | omega | (simp [maxLen,F67] <;> omega)
                    refine hK152 _ _ _ ?_;refine RN h0 [] [(78,AV.bool (decide (0<IntKind.wrap .i64 (IntKind.wrap .i64 ((v8.length : Int)+(v9.length : Int))+(v10.size : Int)))))] [] 0 (by simp [F67]) (by simp [F67]) ?_;exact JN ((decide (0<IntKind.wrap .i64 (IntKind.wrap .i64 ((v8.length : Int)+(v9.length : Int))+(v10.size : Int))))) hF (by simp [F67]) (by simp [F67])
                   ·replace hF:=AaR h67 hF;have h67_:=h67;try simp at h67_
                    have F68:=A5 F65 h66 h66_ h67 h67_;try simp [F68]
                    and_intros <;> first | exact GK g | apply r | omega | (simp [maxLen,F68] <;> omega)
                    refine hK152 _ _ _ ?_;refine RN h0 [] [(78,AV.bool false)] [] 0 (by simp [F68]) (by simp [F68]) ?_;exact JN (false) hF (by simp [F68]) (by simp [F68])
                ·replace hF:=AaR h63 hF;have h63_:=h63;try simp at h63_
                 have F69:=A6 F58 h57 h57_ h57__ h63 h63_;try simp [F69]
                 and_intros
                 try any_goals first | omega | (simp [maxLen,F69] <;> omega)
                 obtain ⟨v38,h68,hF⟩:=AaF hF;refine AC (Abw k _ _ h68) (.cons (.same (by simp [F69])) .nil) ?_;by_cases h69 : (!v38)=true
                 ·replace hF:=AaQ h69 hF;have h69_:=h69;try simp at h69_
                  have F70:=A3 F69 h69 h69_;try simp [F70]
                  and_intros <;> first | exact GK g | apply r | omega | (simp [maxLen,F70] <;> omega)
                  refine hK152 _ _ _ ?_;refine RN h0 [] [(78,AV.bool true)] [] 0 (by simp [F70]) (by simp [F70]) ?_;exact JN (true) hF (by simp [F70]) (by simp [F70])
                 ·replace hF:=AaR h69 hF;have h69_:=h69;try simp at h69_
                  by_cases h70 : v4≤3
                  ·replace hF:=AaQ h70 hF;have h70_:=h70;try simp at h70_
                   have F71:=A5 F69 h69 h69_ h70 h70_;try simp [F71]
                   and_intros <;> first | exact GK g | apply r | omega | (simp [maxLen,F71] <;> omega)
                   refine hK152 _ _ _ ?_;refine RN h0 [] [(78,AV.bool (decide (0<IntKind.wrap .i64 (IntKind.wrap .i64 ((v8.length : Int)+(v9.length : Int))+(v10.size : Int)))))] [] 0 (by simp [F71]) (by simp [F71]) ?_;exact JN ((decide (0<IntKind.wrap .i64 (IntKind.wrap .i64 ((v8.length : Int)+(v9.length : Int))+(v10.size : Int))))) hF (by simp [F71]) (by simp [F71])
                  ·replace hF:=AaR h70 hF;have h70_:=h70;try simp at h70_
                   have F72:=A5 F69 h69 h69_ h70 h70_;try simp [F72]
                   and_intros <;> first | exact GK g | apply r | omega | (simp [maxLen,F72] <;> omega)
                   refine hK152 _ _ _ ?_;refine RN h0 [] [(78,AV.bool false)] [] 0 (by simp [F72]) (by simp [F72]) ?_;exact JN (false) hF (by simp [F72]) (by simp [F72])
              ·rintro v35 hF
               try dsimp only at hF
               unfold AaM.J3 at hF;by_cases h56 : v35=true
               ·replace hF:=AaQ h56 hF;have h56_:=h56;try simp at h56_
                have F73:=A3 F58 h56 h56_;refine CT (by simp [F73] <;> omega) ?_;refine SW F73 [] [none] [78] [(2,Iz 1)] [] [] 0 ?_;simp only [Option.some.injEq] at hF;subst hF;refine AW.ret (hQ _ _ _ ?_ (AaC ?_)).1
                ·simp [Try.f52,F73]
                ·simp [F73]
               ·replace hF:=AaR h56 hF;have h56_:=h56;try simp at h56_
                have F74:=A3 F58 h56 h56_;refine CF (by simp [F74] <;> omega) ?_;refine AW.skip ?_;refine hK116 _ _ _ ?_;exact JN (()) hF (by simp [F74]) (by simp [F74])
 ·rintro ⟨⟩ hF
  try dsimp only at hF
  unfold AaM.J1 at hF;refine SW trivial [] [none] [] [(2,Iz 0)] [] [] 0 ?_;simp only [Option.some.injEq] at hF;subst hF;refine AW.ret (hQ _ _ _ ?_ (AaC ?_)).1
  ·simp [Try.f52]
  ·simp
theorem AcD (k : Nat) (v0 : Int) (v1 : Int) (v2 : ByteArray) (v3 : Int) (v4 : Int) (v5 : Int) (v6 : Int) (v7 : Int) (v8 : (List Int)) (v9 : (List AaA)) (v10 : ByteArray) (v11 : Int) (v12 : ByteArray) (v13 : Bool) (hF : AbY k v0 v1 v2 v3 v4 v5 v6 v7 v8 v9 v10 v11 v12=some v13) :
 AbK Try.prog 51 [AV.agg [AV.int .i64 v0,AV.int .i64 v1,AV.str v2,AV.int .i64 v3,AV.int .i64 v4,AV.int .i64 v5,AV.int .i64 v6,AV.int .i64 v7,AV.lst false false (List.map (AV.int .i64) v8),Q0 v9,AV.str v10,AV.int .i64 v11,AV.str v12]] [] (AV.bool v13) []:=by
 unfold AbY at hF;refine EN Try.func51 ?_;intro c0 w0 Q h0 hQ
 refine WK [(0,AV.agg [Iz v0,Iz v1,AV.str v2,Iz v3,Iz v4,Iz v5,Iz v6,Iz v7,Lz v8,Q0 v9,AV.str v10,Iz v11,AV.str v12])] [] 0 (by simp) (by simp) ?_;refine SW trivial [] [none,none] [0] [(1,AV.ptr 0 0)] [] [(0,.cells [Iz v0,Iz v1,AV.str v2,Iz v3,Iz v4,Iz v5,Iz v6,Iz v7,Lz v8,Q0 v9,AV.str v10,Iz v11,AV.str v12])] 1 ?_;refine SR [] [none,none,none,none,none,none,none,none,none] fun _ _ g r=>?_;try simp
 and_intros
 try any_goals first | omega | (simp [maxLen] <;> omega)
 obtain ⟨v14,h1,hF⟩:=AaF hF;refine AC (Acb k _ _ _ _ _ _ _ _ _ _ _ _ _ _ h1) (.cons (.same (by simp)) .nil) ?_;obtain ⟨v15,h2,hF⟩:=AeV hF;have h2_:=h2;try simp at h2_
 refine TL (A2 h2 h2_) g r [1] [(2,AV.bool v15)] [0] [] 1 ?_;simp only [Option.some.injEq] at hF;subst hF;refine AW.ret (hQ _ _ _ ?_ (AaC ?_)).1
 ·simp [Try.f51,h2,h2_]
 ·simp [h2,h2_]
end Go.TF
