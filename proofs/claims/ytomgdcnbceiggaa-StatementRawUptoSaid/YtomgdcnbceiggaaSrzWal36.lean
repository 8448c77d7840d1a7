import Derived.Test.YtomgdcnbceiggaaSrzWal30
import Derived.Test.YtomgdcnbceiggaaSrzWal31
import Derived.Test.YtomgdcnbceiggaaSrzWal32
import Derived.Test.YtomgdcnbceiggaaSrzWal33
import Derived.Test.YtomgdcnbceiggaaSrzWal34
import Derived.Test.YtomgdcnbceiggaaSrzWal35
set_option linter.unusedVariables false
set_option linter.unusedSimpArgs false
set_option maxRecDepth 100000
set_option maxHeartbeats 4000000
namespace Go.TF
open Go Go.Abs Go.Proofs Go.Proofs.YtomgdcnbceiggaaSrT
theorem AeG (k : Nat) (v0 : Int) (v1 : Int) (v2 : ByteArray) (v3 : Int) (v4 : Int) (v5 : Int) (v6 : Int) (v7 : Int) (v8 : (List Int)) (v9 : (List AaA)) (v10 : ByteArray) (v11 : Int) (v12 : ByteArray) (v13 : Bool) (hF : AcR k v0 v1 v2 v3 v4 v5 v6 v7 v8 v9 v10 v11 v12=some v13) :
 AbK Try.prog 58 [AV.agg [AV.int .i64 v0,AV.int .i64 v1,AV.str v2,AV.int .i64 v3,AV.int .i64 v4,AV.int .i64 v5,AV.int .i64 v6,AV.int .i64 v7,AV.lst false false (List.map (AV.int .i64) v8),Q0 v9,AV.str v10,AV.int .i64 v11,AV.str v12]] [] (AV.bool v13) []:=by
 unfold AcR at hF;refine EN Try.func58 ?_;intro c0 w0 Q h0 hQ
 refine WK [(0,AV.agg [Iz v0,Iz v1,AV.str v2,Iz v3,Iz v4,Iz v5,Iz v6,Iz v7,Lz v8,Q0 v9,AV.str v10,Iz v11,AV.str v12])] [] 0 (by simp) (by simp) ?_;refine SW trivial [] [none,none] [0] [(1,AV.ptr 0 0)] [] [(0,.cells [Iz v0,Iz v1,AV.str v2,Iz v3,Iz v4,Iz v5,Iz v6,Iz v7,Lz v8,Q0 v9,AV.str v10,Iz v11,AV.str v12])] 1 ?_;refine SR [] [none,none,none,none,none,none,none,some (9,true),some (9,true),some (9,true),some (9,true),some (9,true),some (9,true),none,none] fun _ _ g r=>?_;by_cases h1 : v11=v0
 ·replace hF:=AaQ h1 hF;have h1q : v11=v0:=h1;have h1_:=Abr h1q;have h1__:=Abp h1q;try simp [h1_,h1__]
  and_intros
  try any_goals first | omega | (simp [h1_,h1__,maxLen] <;> omega)
  obtain ⟨v14,h2,hF⟩:=AaF hF;refine AC (AeI k _ _ _ _ _ _ _ _ _ _ _ _ _ _ h2) (.cons (.same (by simp [h1_,h1__])) .nil) ?_;refine TL (A2 h1_ h1__) g r [1] [(2,AV.bool (AbZ v12 v14))] [0] [] 1 ?_;simp only [Option.some.injEq] at hF;subst hF;refine AW.ret (hQ _ _ _ ?_ (AaC ?_)).1
  ·simp [Try.f58,h1_,h1__]
  ·simp [h1_,h1__]
 ·replace hF:=AaR h1 hF;have h1_:=Abm h1;have h1__:=Abo h1;have F1:=A3 h1 h1_ h1__;refine TL F1 g r [1] [(2,AV.bool false)] [0] [] 1 ?_;simp only [Option.some.injEq] at hF;subst hF;refine AW.ret (hQ _ _ _ ?_ (AaC ?_)).1
  ·simp [Try.f58,F1]
  ·simp [F1]
theorem AfU (k : Nat) (v0 : Int) (v1 : Int) (v2 : ByteArray) (v3 : Int) (v4 : Int) (v5 : Int) (v6 : Int) (v7 : Int) (v8 : (List Int)) (v9 : (List AaA)) (v10 : ByteArray) (v11 : Int) (v12 : ByteArray) (v13 : (List Int)) (v14 : Int) (hF : Ach k v0 v1 v2 v3 v4 v5 v6 v7 v8 v9 v10 v11 v12=some (v13,v14)) :
 AbK Try.prog 31 [AV.agg [AV.int .i64 v0,AV.int .i64 v1,AV.str v2,AV.int .i64 v3,AV.int .i64 v4,AV.int .i64 v5,AV.int .i64 v6,AV.int .i64 v7,AV.lst false false (List.map (AV.int .i64) v8),Q0 v9,AV.str v10,AV.int .i64 v11,AV.str v12]] [] (AV.tup [AV.slc 0 0 1 v13.length false,AV.int .i64 v14]) [some (.grow (List.map (AV.int .u8) v13))]:=by
 unfold Ach at hF;refine EN Try.func31 ?_;intro c0 w0 Q h0 hQ
 refine WK [(0,AV.agg [Iz v0,Iz v1,AV.str v2,Iz v3,Iz v4,Iz v5,Iz v6,Iz v7,Lz v8,Q0 v9,AV.str v10,Iz v11,AV.str v12])] [] 0 (by simp) (by simp) ?_;refine SW trivial [] [none,none,none] [0] [(1,AV.ptr 0 0)] [] [(0,.cells [Iz v0,Iz v1,AV.str v2,Iz v3,Iz v4,Iz v5,Iz v6,Iz v7,Lz v8,Q0 v9,AV.str v10,Iz v11,AV.str v12])] 1 ?_;refine AW.seq fun K19 hK19=>?_;obtain ⟨v15,h1,hF⟩:=AaF hF;refine CL trivial [] [none,none,none] (Aed k _ _ _ _ _ _ _ _ _ _ _ _ _ _ h1) [] [(4,Iz v15)] [] [] 1 ?_;refine SW trivial [] [none,none] [] [(8,AV.bool (v15 !=0))] [] [] 1 ?_;by_cases h2 : v15≠0
 ·replace hF:=AaQ h2 hF;have h2_:=Abm h2;have h2__:=Abo h2;have F1:=A3 h2 h2_ h2__;refine CT (by simp [F1] <;> omega) ?_;refine SW F1 [] [none,none,none] [1,4,8] [(2,AV.lst true true (List.map (AV.int .u8) ([] : List Int))),(3,Iz v15)] [0] [] 1 ?_;refine AW.own' 2 1 true (by simp [F1]) (by decide) ?_;refine RM h0 [(0,1)] [(2,AV.slc 0 0 1 (([] : List Int).length) false),(3,Iz v15)] [(0,.grow (List.map (AV.int .u8) ([] : List Int)))] 1 (by simp [F1]) (by simp [F1]) ?_;simp only [Option.some.injEq,Prod.mk.injEq] at hF;obtain ⟨e0,e1⟩:=hF;subst e0 e1;refine AW.ret (hQ _ _ _ ?_ (AaC ?_)).1
  ·simp [Try.f31,F1]
  ·simp [F1]
 ·replace hF:=AaR h2 hF;have h2q : v15=0:=Classical.not_not.1 h2;have h2_:=Abr h2q;have h2__:=Abp h2q;have F2:=A3 h2_ h2__ h2q;refine CF (by simp [F2] <;> omega) ?_;refine AW.skip ?_;refine hK19 _ _ _ ?_;refine AW.seq fun K25 hK25=>?_;obtain ⟨v16,h3,hF⟩:=AaF hF;refine CL F2 [] [none,none,none] (AeG k _ _ _ _ _ _ _ _ _ _ _ _ _ _ h3) [4,8] [(12,AV.bool (!v16))] [] [] 1 ?_;by_cases h4 : (!v16)=true
  ·replace hF:=AaQ h4 hF;have h4_:=h4;try simp at h4_
   have F3:=A3 F2 h4 h4_;refine CT (by simp [F3] <;> omega) ?_;refine SW F3 [] [none,none] [1,12] [(2,AV.lst true true (List.map (AV.int .u8) ([] : List Int))),(3,Iz 6)] [0] [] 1 ?_;refine AW.own' 2 1 true (by simp [F3]) (by decide) ?_;refine RM h0 [(0,1)] [(2,AV.slc 0 0 1 (([] : List Int).length) false),(3,Iz 6)] [(0,.grow (List.map (AV.int .u8) ([] : List Int)))] 1 (by simp [F3]) (by simp [F3]) ?_;simp only [Option.some.injEq,Prod.mk.injEq] at hF;obtain ⟨e0,e1⟩:=hF;subst e0 e1;refine AW.ret (hQ _ _ _ ?_ (AaC ?_)).1
   ·simp [Try.f31,F3]
   ·simp [F3]
  ·replace hF:=AaR h4 hF;have h4_:=h4;try simp at h4_
   have F4:=A3 F2 h4 h4_;refine CF (by simp [F4] <;> omega) ?_;refine AW.skip ?_;refine hK25 _ _ _ ?_;refine SQ [] [none,none,none,none,none,none,none,none,none,none,none,none] fun _ _ g r=>?_;try simp [F4]
   and_intros
   try any_goals first | omega | (simp [maxLen,F4] <;> omega)
   obtain ⟨v17,h5,hF⟩:=AaF hF;refine AC (Aee k _ _ _ _ _ _ _ _ _ _ _ _ _ _ h5) (.cons (.same (by simp [F4])) .nil) ?_;try simp [F4]
   and_intros
   try any_goals first | omega | (simp [maxLen,F4] <;> omega)
   obtain ⟨v18,h6,hF⟩:=AaF hF;refine AaT (AcI k _ _ _ h6) (by simp) [] [1] [] rfl (.cons (Coe.l (o := .grow (List.map (AV.int .u8) v17)) (by simp [F4]) rfl (by simp [F4]) (by simp [Acd]) (by simp [F4]) (by simp [F4])) (.cons (.same (by simp [F4])) .nil)) (by simp [F4]) (by decide) (by simp) (by simp) (.inr ⟨by simp,by simp⟩) (by simp) (by simp) ?_;try simp [F4]
   and_intros
   try any_goals first | omega | (simp [maxLen,F4] <;> omega)
   obtain ⟨v19,h7,hF⟩:=AaF hF;refine AaT (Ad9 k _ _ _ h7) (by simp) [] [2] [] rfl (.cons (Coe.l (o := .grow (List.map (AV.int .u8) v18)) (by simp [F4]) rfl (by simp [F4]) (by simp [Acd]) (by simp [F4]) (by simp [F4])) (.cons (.same (by simp [F4])) .nil)) (by simp [F4]) (by decide) (by simp) (by simp) (.inr ⟨by simp,by simp⟩) (by simp) (by simp) ?_;try simp [F4]
   and_intros <;> first | exact GK g | apply r | omega | (simp [maxLen,F4] <;> omega)
   refine RM h0 [(0,3)] [(2,AV.slc 0 0 1 v19.length false),(3,Iz 0)] [(0,.grow (List.map (AV.int .u8) v19))] 1 (by simp [F4]) (by simp [F4]) ?_;simp only [Option.some.injEq,Prod.mk.injEq] at hF;obtain ⟨e0,e1⟩:=hF;subst e0 e1;refine AW.ret (hQ _ _ _ ?_ (AaC ?_)).1
   ·simp [Try.f31,F4]
   ·simp [F4]
abbrev AdA (v0 : Int) (v1 : Int) (v2 : ByteArray) (v3 : Int) (v4 : Int) (v5 : Int) (v6 : Int) (v7 : Int) (v8 : (List Int)) (v9 : (List AaA)) (v10 : ByteArray) (v11 : Int) (v12 : ByteArray) : Aaq := .cells [Iz v0,Iz v1,AV.str v2,Iz v3,Iz v4,Iz v5,Iz v6,Iz v7,Lz v8,Q0 v9,AV.str v10,Iz v11,AV.str v12]
abbrev Aeg  : Aaq := .cells [Iz 0,Iz 0,AV.str (ByteArray.mk #[]),Iz 0,Iz 0,Iz 0,Iz 0,Iz 0,AV.lst true true (List.map (AV.int .i64) ([] : List Int)),AV.lst true true (List.map AaA.av ([] : List AaA)),AV.str (ByteArray.mk #[]),Iz 0,AV.str (ByteArray.mk #[])]
theorem Ain (k : Nat) (v0 : Int) (v1 : Int) (v2 : ByteArray) (v3 : Int) (v4 : Int) (v5 : Int) (v6 : Int) (v7 : Int) (v8 : (List Int)) (v9 : (List AaA)) (v10 : ByteArray) (v11 : Int) (v12 : ByteArray) (v13 : AaI) (hF : AfI k v0 v1 v2 v3 v4 v5 v6 v7 v8 v9 v10 v11 v12=some v13) :
 AbK Try.prog 27 [AV.agg [AV.int .i64 v0,AV.int .i64 v1,AV.str v2,AV.int .i64 v3,AV.int .i64 v4,AV.int .i64 v5,AV.int .i64 v6,AV.int .i64 v7,AV.lst false false (List.map (AV.int .i64) v8),Q0 v9,AV.str v10,AV.int .i64 v11,AV.str v12]] [] (AV.agg [AV.int .i64 v13.Author,AV.int .i64 v13.Number,AV.str v13.Prev,AV.int .i64 v13.Time,AV.int .i64 v13.Kind,AV.int .i64 v13.A,AV.int .i64 v13.B,AV.int .i64 v13.C,AV.lst false false (List.map (AV.int .i64) v13.Lst),Q0 v13.Pins,AV.str v13.Body,AV.int .i64 v13.Seal_Key,AV.str v13.Seal_Digest]) []:=by
 unfold AfI at hF;refine EN Try.func27 ?_;intro c0 w0 Q h0 hQ
 refine WK [(0,AV.agg [Iz v0,Iz v1,AV.str v2,Iz v3,Iz v4,Iz v5,Iz v6,Iz v7,Lz v8,Q0 v9,AV.str v10,Iz v11,AV.str v12])] [] 0 (by simp) (by simp) ?_;refine SW trivial [] [none,none] [0] [(1,AV.ptr 0 0),(2,AV.ptr 1 0)] [] [(0,AdA v0 v1 v2 v3 v4 v5 v6 v7 v8 v9 v10 v11 v12),(1,Aeg )] 2 ?_;refine SR [5] [none,none,none,none,none] fun _ _ g r=>?_;obtain ⟨h1,hF⟩:=AaS hF;have h1_:=h1;try simp at h1_
 refine TL h1 g r [] [] [0] [(0,.cells [Iz v0,Iz v1,AV.str v2,Iz v3,Iz v4,Iz v5,Iz v6,Iz v7,AV.slc 2 0 1 v8.length false,Q0 v9,AV.str v10,Iz v11,AV.str v12]),(2,Gi v8)] 3 ?_;refine AW.frz 2 (o:=Gi v8) (by simp [h1]) rfl [] [(0,AdA v0 v1 v2 v3 v4 v5 v6 v7 v8 v9 v10 v11 v12)] trivial ⟨⟨by simp,Aaq.cells [Iz v0,Iz v1,AV.str v2,Iz v3,Iz v4,Iz v5,Iz v6,Iz v7,AV.slc 2 0 1 v8.length false,Q0 v9,AV.str v10,Iz v11,AV.str v12],by simp [h1],(.mk (.cons (.same _) (.cons (.same _) (.cons (.same _) (.cons (.same _) (.cons (.same _) (.cons (.same _) (.cons (.same _) (.cons (.same _) (.cons (.l (by simp) (by simp) (by simp) (by simp)) (.cons (.same _) (.cons (.same _) (.cons (.same _) (.cons (.same _) .nil))))))))))))))⟩,trivial⟩ ?_;refine WK [(1,AV.ptr 0 0),(2,AV.ptr 1 0)] [(0,AdA v0 v1 v2 v3 v4 v5 v6 v7 v8 v9 v10 v11 v12),(1,Aeg )] 3 (by simp [h1]) (by simp [h1]) ?_;refine SR [9] [none,none,none,none,none] fun _ _ g r=>?_;obtain ⟨h2,hF⟩:=AaS hF;have h2_:=h2;try simp at h2_
 refine TL (A2 h1 h2) g r [] [] [0] [(0,.cells [Iz v0,Iz v1,AV.str v2,Iz v3,Iz v4,Iz v5,Iz v6,Iz v7,Lz v8,AV.slc 3 0 3 v9.length false,AV.str v10,Iz v11,AV.str v12]),(3,.grow (AaW (List.map AaA.av v9)))] 4 ?_;refine AW.frz 3 (o := .grow (AaW (List.map AaA.av v9))) (by simp [h1,h2]) rfl [] [(0,AdA v0 v1 v2 v3 v4 v5 v6 v7 v8 v9 v10 v11 v12)] trivial ⟨⟨by simp,Aaq.cells [Iz v0,Iz v1,AV.str v2,Iz v3,Iz v4,Iz v5,Iz v6,Iz v7,Lz v8,AV.slc 3 0 3 v9.length false,AV.str v10,Iz v11,AV.str v12],by simp [h1,h2],(.mk (.cons (.same _) (.cons (.same _) (.cons (.same _) (.cons (.same _) (.cons (.same _) (.cons (.same _) (.cons (.same _) (.cons (.same _) (.cons (.same _) (.cons (.l (by simp) (by simp) (by simp) (by simp)) (.cons (.same _) (.cons (.same _) (.cons (.same _) .nil))))))))))))))⟩,trivial⟩ ?_;refine WK [(1,AV.ptr 0 0),(2,AV.ptr 1 0)] [(0,AdA v0 v1 v2 v3 v4 v5 v6 v7 v8 v9 v10 v11 v12),(1,Aeg )] 4 (by simp [h1,h2]) (by simp [h1,h2]) ?_;refine SQ [] [none,none] fun _ _ g r=>?_;try simp [h1,h2]
 and_intros <;> first | exact GK g | apply r | omega | (simp [h1,h2,maxLen] <;> omega)
 refine RM h0 [(0,1)] [(2,AV.ptr 0 0)] [(0,AdA v0 v1 v2 v3 v4 v5 v6 v7 v8 v9 v10 v11 v12)] 1 (by simp [h1,h2]) (by simp [h1,h2]) ?_;simp only [Option.some.injEq] at hF;subst hF;refine AW.ret (hQ _ _ _ ?_ (AaC ?_)).1
 ·simp [Try.f27,h1,h2]
 ·simp [h1,h2]
abbrev AjS  : Aaq := .cells [Iz 0,Iz 0,AV.str (ByteArray.mk #[]),Iz 0,Iz 0,Iz 0,Iz 0,Iz 0,AV.lst true true (List.map (AV.int .i64) ([] : List Int)),AV.lst true true (List.map AaA.av ([] : List AaA)),AV.str (ByteArray.mk #[]),Iz 0,AV.str (ByteArray.mk #[])]
theorem AgM (k : Nat) (v0 : Int) (v1 : Int) (v2 : ByteArray) (v3 : Int) (v4 : Int) (v5 : Int) (v6 : Int) (v7 : Int) (v8 : (List Int)) (v9 : (List AaA)) (v10 : ByteArray) (v11 : Int) (v12 : ByteArray) (v13 : AaI) (hF : Adv k v0 v1 v2 v3 v4 v5 v6 v7 v8 v9 v10 v11 v12=some v13) :
 AbK Try.prog 21 [AV.agg [AV.int .i64 v0,AV.int .i64 v1,AV.str v2,AV.int .i64 v3,AV.int .i64 v4,AV.int .i64 v5,AV.int .i64 v6,AV.int .i64 v7,AV.lst false false (List.map (AV.int .i64) v8),Q0 v9,AV.str v10,AV.int .i64 v11,AV.str v12]] [] (AV.agg [AV.int .i64 v13.Author,AV.int .i64 v13.Number,AV.str v13.Prev,AV.int .i64 v13.Time,AV.int .i64 v13.Kind,AV.int .i64 v13.A,AV.int .i64 v13.B,AV.int .i64 v13.C,AV.lst false false (List.map (AV.int .i64) v13.Lst),Q0 v13.Pins,AV.str v13.Body,AV.int .i64 v13.Seal_Key,AV.str v13.Seal_Digest]) []:=by
 unfold Adv at hF;refine EN Try.func21 ?_;intro c0 w0 Q h0 hQ
 refine WK [(0,AV.agg [Iz v0,Iz v1,AV.str v2,Iz v3,Iz v4,Iz v5,Iz v6,Iz v7,Lz v8,Q0 v9,AV.str v10,Iz v11,AV.str v12])] [] 0 (by simp) (by simp) ?_;refine SW trivial [] [none,none] [0] [(1,AV.ptr 0 0),(2,AV.ptr 1 0)] [] [(0,.cells [Iz v0,Iz v1,AV.str v2,Iz v3,Iz v4,Iz v5,Iz v6,Iz v7,Lz v8,Q0 v9,AV.str v10,Iz v11,AV.str v12]),(1,AjS )] 2 ?_;obtain ⟨v14,h1,hF⟩:=AaF hF;refine CL trivial [] [none,none,none] (Ain k _ _ _ _ _ _ _ _ _ _ _ _ _ _ h1) [] [] [0] [(0,.cells [Iz v14.Author,Iz v14.Number,AV.str v14.Prev,Iz v14.Time,Iz v14.Kind,Iz v14.A,Iz v14.B,Iz v14.C,AV.lst false false (List.map (AV.int .i64) v14.Lst),Q0 v14.Pins,AV.str v14.Body,Iz v14.Seal_Key,AV.str v14.Seal_Digest])] 2 ?_;obtain ⟨v15,h2,hF⟩:=AaF hF;refine CL trivial [] [none,none,none,none,none,none,none] (AeI k _ _ _ _ _ _ _ _ _ _ _ _ _ _ h2) [] [] [0] [(0,.cells [Iz v14.Author,Iz v14.Number,AV.str v14.Prev,Iz v14.Time,Iz v14.Kind,Iz v14.A,Iz v14.B,Iz v14.C,AV.lst false false (List.map (AV.int .i64) v14.Lst),Q0 v14.Pins,AV.str v14.Body,Iz v14.Author,AV.str v15])] 2 ?_;refine SQ [] [none,none] fun _ _ g r=>?_;try simp
 and_intros <;> first | exact GK g | apply r | omega | (simp [maxLen] <;> omega)
 refine RM h0 [(0,1)] [(2,AV.ptr 0 0)] [(0,.cells [Iz v14.Author,Iz v14.Number,AV.str v14.Prev,Iz v14.Time,Iz v14.Kind,Iz v14.A,Iz v14.B,Iz v14.C,AV.lst false false (List.map (AV.int .i64) v14.Lst),Q0 v14.Pins,AV.str v14.Body,Iz v14.Author,AV.str v15])] 1 (by simp) (by simp) ?_;simp only [Option.some.injEq] at hF;subst hF;refine AW.ret (hQ _ _ _ ?_ (AaC ?_)).1
 ·simp [Try.f21]
 ·simp
theorem Agc (k : Nat) (v0 : (List Int)) (v1 : (List Int)) (v2 : Bool) (hF : Aa3 k v0 v1=some v2) :
 AbK Try.prog 100 [AV.lst false false (List.map (AV.int .i64) v0),AV.lst false false (List.map (AV.int .i64) v1)] [] (AV.bool v2) []:=by
 unfold Aa3 at hF;refine EN Try.func100 ?_;intro c0 w0 Q h0 hQ
 refine WK [(0,Lz v0),(1,Lz v1)] [] 0 (by simp) (by simp) ?_;refine SW trivial [] [none] [] [] [] [] 0 ?_;refine AW.seq fun K88 hK88=>?_;refine SW trivial [] [none,none,none,none,none] [] [(10,AV.bool ((v0.length : Int) !=(v1.length : Int)))] [] [] 0 ?_;by_cases h1 : (v0.length : Int)≠(v1.length : Int)
 ·replace hF:=AaQ h1 hF;have h1_:=Abm h1;have h1__:=Abo h1;have F1:=A3 h1 h1_ h1__;refine CT (by simp [F1] <;> omega) ?_;refine SW F1 [] [none] [0,1,10] [(4,AV.bool false)] [] [] 0 ?_;simp only [Option.some.injEq] at hF;subst hF;refine AW.ret (hQ _ _ _ ?_ (AaC ?_)).1
  ·simp [Try.f100,F1]
  ·simp [F1]
 ·replace hF:=AaR h1 hF;have h1q : (v0.length : Int)=(v1.length : Int):=Classical.not_not.1 h1;have h1_:=Abr h1q;have h1__:=Abp h1q;refine CF (by simp [h1_,h1__] <;> omega) ?_;refine AW.skip ?_;refine hK88 _ _ _ ?_;refine AW.seq fun K129 hK129=>?_;refine SW (A2 h1_ h1__) [] [none] [10] [(5,Iz 0)] [] [] 0 ?_;refine AW.block ?_;refine AW.loopF (α:=Int) (fun n v3=>Aa3.L1 k v0 v1 n v3=some v2) (fun v3=>[(0,Lz v0),(1,Lz v1),(5,Iz v3)]) (fun v3=>[]) 0 k (0) hF (by simp [h1_,h1__]) (by simp [h1_,h1__]) (by simp) ?_;rintro (_|n1) v3 hF K158 hK158
  ·try dsimp only at hF
   rw [Aa3.L1] at hF; cases hF
  try dsimp only at hF
  rw [Aa3.L1] at hF;refine AW.seq fun K160 hK160=>?_;refine SW (A2 h1_ h1__) [] [none,none,none,none] [] [(14,AV.bool (decide (v3<(v0.length : Int))))] [] [] 0 ?_;by_cases h2 : v3<(v0.length : Int)
  ·replace hF:=AaQ h2 hF;have h2_:=h2;try simp at h2_
   have F2:=A4 h1_ h1__ h2 h2_;refine CT (by simp [F2] <;> omega) ?_;refine AW.skip ?_;refine hK160 _ _ _ ?_;refine AW.seq fun K164 hK164=>?_;refine AW.block ?_;refine SR [] [none,none,none,none,none,none,none,none,none] fun _ _ g r=>?_;obtain ⟨v4,h3,h4,h5,hF⟩:=Aah hF;have h5_:=Aa7 h5;try simp at h5_
   have h4_:=h4;try simp at h4_
   obtain ⟨v5,h6,h7,h8,hF⟩:=Aah hF;have h8_:=Aa7 h8;try simp at h8_
   have h7_:=h7;try simp at h7_
   have F3:=A9 F2 h3 h4 h5 h5_ h4_ h6 h7 (A3 h8 h8_ h7_);refine TL F3 g r [] [(25,AV.bool (v4 !=v5))] [] [] 0 ?_;by_cases h9 : v4≠v5
   ·replace hF:=AaQ h9 hF;have h9_:=Abm h9;have h9__:=Abo h9;have F4:=A4 F3 h9 h9_ h9__;refine CT (by simp [F4] <;> omega) ?_;refine SW F4 [] [none] [0,1,5,25] [(4,AV.bool false)] [] [] 0 ?_;simp only [Option.some.injEq] at hF;subst hF;refine AW.ret (hQ _ _ _ ?_ (AaC ?_)).1
    ·simp [Try.f100,F4]
    ·simp [F4]
   ·replace hF:=AaR h9 hF;have h9q : v4=v5:=Classical.not_not.1 h9;have h9_:=Abr h9q;have h9__:=Abp h9q;have F5:=A3 F3 h9_ h9__;refine CF (by simp [F5] <;> omega) ?_;refine AW.skip ?_;refine hK164 _ _ _ ?_;refine RG [] [none,none,none] fun _ _ g r=>?_;try simp [F5]
    and_intros <;> first | exact GK g | apply r | omega | (simp [maxLen,F5] <;> omega)
    refine hK158 _ _ _ ?_;exact NX (k':=n1) (IntKind.wrap .i64 (v3+1)) hF (by simp [F5]) (by simp [F5])
  ·replace hF:=AaR h2 hF;have h2_:=h2;try simp at h2_
   have F6:=A4 h1_ h1__ h2 h2_;refine CF (by simp [F6] <;> omega) ?_;refine AW.exit ?_;try simp
   refine hK129 _ _ _ ?_;refine SW F6 [] [none] [0,1,5] [(4,AV.bool true)] [] [] 0 ?_;simp only [Option.some.injEq] at hF;subst hF;refine AW.ret (hQ _ _ _ ?_ (AaC ?_)).1
   ·simp [Try.f100,F6]
   ·simp [F6]
theorem Agb (k : Nat) (v0 : (List AaA)) (v1 : (List AaA)) (v2 : Bool) (hF : Aa2 k v0 v1=some v2) :
 AbK Try.prog 101 [Q0 v0,Q0 v1] [] (AV.bool v2) []:=by
 unfold Aa2 at hF;refine EN Try.func101 ?_;intro c0 w0 Q h0 hQ
 refine WK [(0,Q0 v0),(1,Q0 v1)] [] 0 (by simp) (by simp) ?_;refine SW trivial [] [none] [] [] [] [] 0 ?_;refine AW.seq fun K88 hK88=>?_;refine SW trivial [] [none,none,none,none,none] [] [(10,AV.bool ((v0.length : Int) !=(v1.length : Int)))] [] [] 0 ?_;by_cases h1 : (v0.length : Int)≠(v1.length : Int)
 ·replace hF:=AaQ h1 hF;have h1_:=Abm h1;have h1__:=Abo h1;have F1:=A3 h1 h1_ h1__;refine CT (by simp [F1] <;> omega) ?_;refine SW F1 [] [none] [0,1,10] [(4,AV.bool false)] [] [] 0 ?_;simp only [Option.some.injEq] at hF;subst hF;refine AW.ret (hQ _ _ _ ?_ (AaC ?_)).1
  ·simp [Try.f101,F1]
  ·simp [F1]
 ·replace hF:=AaR h1 hF;have h1q : (v0.length : Int)=(v1.length : Int):=Classical.not_not.1 h1;have h1_:=Abr h1q;have h1__:=Abp h1q;refine CF (by simp [h1_,h1__] <;> omega) ?_;refine AW.skip ?_;refine hK88 _ _ _ ?_;refine AW.seq fun K129 hK129=>?_;refine SW (A2 h1_ h1__) [] [none] [10] [(5,Iz 0)] [] [] 0 ?_;refine AW.block ?_;refine AW.loopF (α:=Int) (fun n v3=>Aa2.L1 k v0 v1 n v3=some v2) (fun v3=>[(0,Q0 v0),(1,Q0 v1),(5,Iz v3)]) (fun v3=>[]) 0 k (0) hF (by simp [h1_,h1__]) (by simp [h1_,h1__]) (by simp) ?_;rintro (_|n1) v3 hF K158 hK158
  ·try dsimp only at hF
   rw [Aa2.L1] at hF; cases hF
  try dsimp only at hF
  rw [Aa2.L1] at hF;refine AW.seq fun K160 hK160=>?_;refine SW (A2 h1_ h1__) [] [none,none,none,none] [] [(14,AV.bool (decide (v3<(v0.length : Int))))] [] [] 0 ?_;by_cases h2 : v3<(v0.length : Int)
  ·replace hF:=AaQ h2 hF;have h2_:=h2;try simp at h2_
   have F2:=A4 h1_ h1__ h2 h2_;refine CT (by simp [F2] <;> omega) ?_;refine AW.skip ?_;refine hK160 _ _ _ ?_;refine AW.seq fun K164 hK164=>?_;refine AW.block ?_;refine SR [] [none,none,none,none,none,none,none,none,none] fun _ _ g r=>?_;obtain ⟨v4,h3,h4,h5,hF⟩:=Aah hF;have h5_:=Aa7 h5;try simp at h5_
   have h4_:=h4;try simp at h4_
   obtain ⟨v5,h6,h7,h8,hF⟩:=Aah hF;have h8_:=Aa7 h8;try simp at h8_
   have h7_:=h7;try simp at h7_
   obtain ⟨v6,h9,hF⟩:=AeV hF;have h9_:=h9;try simp at h9_
   have F3:=A9 F2 h3 h4 h5 h5_ h4_ h6 h7 (A5 h8 h8_ h7_ h9 h9_);refine TL F3 g r [] [(25,AV.bool (!v6))] [] [] 0 ?_;by_cases h10 : (!v6)=true
   ·replace hF:=AaQ h10 hF;have h10_:=h10;try simp at h10_
    have F4:=A3 F3 h10 h10_;refine CT (by simp [F4] <;> omega) ?_;refine SW F4 [] [none] [0,1,5,25] [(4,AV.bool false)] [] [] 0 ?_;simp only [Option.some.injEq] at hF;subst hF;refine AW.ret (hQ _ _ _ ?_ (AaC ?_)).1
    ·simp [Try.f101,F4]
    ·simp [F4]
   ·replace hF:=AaR h10 hF;have h10_:=h10;try simp at h10_
    have F5:=A3 F3 h10 h10_;refine CF (by simp [F5] <;> omega) ?_;refine AW.skip ?_;refine hK164 _ _ _ ?_;refine RG [] [none,none,none] fun _ _ g r=>?_;try simp [F5]
    and_intros <;> first | exact GK g | apply r | omega | (simp [maxLen,F5] <;> omega)
    refine hK158 _ _ _ ?_;exact NX (k':=n1) (IntKind.wrap .i64 (v3+1)) hF (by simp [F5]) (by simp [F5])
  ·replace hF:=AaR h2 hF;have h2_:=h2;try simp at h2_
   have F6:=A4 h1_ h1__ h2 h2_;refine CF (by simp [F6] <;> omega) ?_;refine AW.exit ?_;try simp
   refine hK129 _ _ _ ?_;refine SW F6 [] [none] [0,1,5] [(4,AV.bool true)] [] [] 0 ?_;simp only [Option.some.injEq] at hF;subst hF;refine AW.ret (hQ _ _ _ ?_ (AaC ?_)).1
   ·simp [Try.f101,F6]
   ·simp [F6]
theorem Ae1 (k : Nat) (v0 : Int) (v1 : Int) (v2 : ByteArray) (v3 : Int) (v4 : Int) (v5 : Int) (v6 : Int) (v7 : Int) (v8 : (List Int)) (v9 : (List AaA)) (v10 : ByteArray) (v11 : Int) (v12 : ByteArray) (v13 : Int) (v14 : Int) (v15 : ByteArray) (v16 : Int) (v17 : Int) (v18 : Int) (v19 : Int) (v20 : Int) (v21 : (List Int)) (v22 : (List AaA)) (v23 : ByteArray) (v24 : Int) (v25 : ByteArray) (v26 : Bool) (hF : AcN k v0 v1 v2 v3 v4 v5 v6 v7 v8 v9 v10 v11 v12 v13 v14 v15 v16 v17 v18 v19 v20 v21 v22 v23 v24 v25=some v26) :
 AbK Try.prog 59 [AV.agg [AV.int .i64 v0,AV.int .i64 v1,AV.str v2,AV.int .i64 v3,AV.int .i64 v4,AV.int .i64 v5,AV.int .i64 v6,AV.int .i64 v7,AV.lst false false (List.map (AV.int .i64) v8),Q0 v9,AV.str v10,AV.int .i64 v11,AV.str v12],AV.agg [AV.int .i64 v13,AV.int .i64 v14,AV.str v15,AV.int .i64 v16,AV.int .i64 v17,AV.int .i64 v18,AV.int .i64 v19,AV.int .i64 v20,AV.lst false false (List.map (AV.int .i64) v21),Q0 v22,AV.str v23,AV.int .i64 v24,AV.str v25]] [] (AV.bool v26) []:=by
 unfold AcN at hF;refine EN Try.func59 ?_;intro c0 w0 Q h0 hQ
 refine WK [(0,AV.agg [Iz v0,Iz v1,AV.str v2,Iz v3,Iz v4,Iz v5,Iz v6,Iz v7,Lz v8,Q0 v9,AV.str v10,Iz v11,AV.str v12]),(1,AV.agg [Iz v13,Iz v14,AV.str v15,Iz v16,Iz v17,Iz v18,Iz v19,Iz v20,Lz v21,Q0 v22,AV.str v23,Iz v24,AV.str v25])] [] 0 (by simp) (by simp) ?_;refine SW trivial [] [none,none,none] [0,1] [(2,AV.ptr 0 0),(3,AV.ptr 1 0)] [] [(0,.cells [Iz v0,Iz v1,AV.str v2,Iz v3,Iz v4,Iz v5,Iz v6,Iz v7,Lz v8,Q0 v9,AV.str v10,Iz v11,AV.str v12]),(1,.cells [Iz v13,Iz v14,AV.str v15,Iz v16,Iz v17,Iz v18,Iz v19,Iz v20,Lz v21,Q0 v22,AV.str v23,Iz v24,AV.str v25])] 2 ?_;refine SR [] [none,none,none,none,none,none,some (10,true),some (10,true),some (10,true),some (10,true),some (10,true),none,none,some (17,true),some (17,true),some (17,true),some (17,true),some (17,true),none,none,some (24,true),some (24,true),some (24,true),some (24,true),some (24,true),none,none,some (31,true),some (31,true),some (31,true),some (31,true),some (31,true),none,none,some (38,true),some (38,true),some (38,true),some (38,true),some (38,true),none,none,some (45,true),some (45,true),some (45,true),some (45,true),some (45,true),none,none,some (52,true),some (52,true),some (52,true),some (52,true),some (52,true),none,none,some (59,true),some (59,true),some (59,true),some (59,true),some (59,true),none,none,some (66,true),some (66,true),some (66,true),some (66,true),some (66,true),none,none,some (73,true),some (73,true),some (73,true),some (73,true),some (73,true),none,none,some (80,true),some (80,true),some (80,true),some (80,true),some (80,true),none,none] fun _ _ g r=>?_;by_cases h1 : v0=v13
 ·replace hF:=AaQ h1 hF;have h1q : v0=v13:=h1;have h1_:=Abr h1q;have h1__:=Abp h1q;by_cases h2 : v1=v14
  ·replace hF:=AaQ h2 hF;have h2q : v1=v14:=h2;have h2_:=Abr h2q;have h2__:=Abp h2q;by_cases h3 : (AbZ v2 v15)=true
   ·replace hF:=AaQ h3 hF;have h3_:=h3;try simp at h3_
    by_cases h4 : v3=v16
    ·replace hF:=AaQ h4 hF;have h4q : v3=v16:=h4;have h4_:=Abr h4q;have h4__:=Abp h4q;by_cases h5 : v4=v17
     ·replace hF:=AaQ h5 hF;have h5q : v4=v17:=h5;have h5_:=Abr h5q;have h5__:=Abp h5q;by_cases h6 : v5=v18
      ·replace hF:=AaQ h6 hF;have h6q : v5=v18:=h6;have h6_:=Abr h6q;have h6__:=Abp h6q;by_cases h7 : v6=v19
       ·replace hF:=AaQ h7 hF;have h7q : v6=v19:=h7;have h7_:=Abr h7q;have h7__:=Abp h7q;by_cases h8 : v7=v20
        ·replace hF:=AaQ h8 hF;have h8q : v7=v20:=h8;have h8_:=Abr h8q;have h8__:=Abp h8q;have F1:=A9 h1_ h1__ h2_ h2__ h3 h3_ h4_ h4__ (A8 h5_ h5__ h6_ h6__ h7_ h7__ h8_ h8__);try simp [F1]
         and_intros
         try any_goals first | omega | (simp [maxLen,F1] <;> omega)
         obtain ⟨v27,h9,hF⟩:=AaF hF;refine AC (Agc k _ _ _ h9) (.cons (.same (by simp [F1])) (.cons (.same (by simp [F1])) .nil)) ?_;by_cases h10 : v27=true
         ·replace hF:=AaQ h10 hF;have h10_:=h10;try simp at h10_
          have F2:=A3 F1 h10 h10_;try simp [F2]
          and_intros
          try any_goals first | omega | (simp [maxLen,F2] <;> omega)
          obtain ⟨v28,h11,hF⟩:=AaF hF;refine AC (Agb k _ _ _ h11) (.cons (.same (by simp [F2])) (.cons (.same (by simp [F2])) .nil)) ?_;by_cases h12 : v28=true
          ·replace hF:=AaQ h12 hF;have h12_:=h12;try simp at h12_
           by_cases h13 : (AbZ v10 v23)=true
           ·replace hF:=AaQ h13 hF;have h13_:=h13;try simp at h13_
            obtain ⟨v29,h14,hF⟩:=AeV hF;have h14_:=h14;try simp at h14_
            have F3:=A7 F2 h12 h12_ h13 h13_ h14 h14_;refine TL F3 g r [2,3] [(4,AV.bool v29)] [0,1] [] 2 ?_;simp only [Option.some.injEq] at hF;subst hF;refine AW.ret (hQ _ _ _ ?_ (AaC ?_)).1
            ·simp [Try.f59,F3]
            ·simp [F3]
           ·replace hF:=AaR h13 hF;have h13_:=h13;try simp at h13_
            have F4:=A5 F2 h12 h12_ h13 h13_;refine TL F4 g r [2,3] [(4,AV.bool false)] [0,1] [] 2 ?_;simp only [Option.some.injEq] at hF;subst hF;refine AW.ret (hQ _ _ _ ?_ (AaC ?_)).1
            ·simp [Try.f59,F4]
            ·simp [F4]
          ·replace hF:=AaR h12 hF;have h12_:=h12;try simp at h12_
           have F5:=A3 F2 h12 h12_;refine TL F5 g r [2,3] [(4,AV.bool false)] [0,1] [] 2 ?_;simp only [Option.some.injEq] at hF;subst hF;refine AW.ret (hQ _ _ _ ?_ (AaC ?_)).1
           ·simp [Try.f59,F5]
           ·simp [F5]
         ·replace hF:=AaR h10 hF;have h10_:=h10;try simp at h10_
          have F6:=A3 F1 h10 h10_;refine TL F6 g r [2,3] [(4,AV.bool false)] [0,1] [] 2 ?_;simp only [Option.some.injEq] at hF;subst hF;refine AW.ret (hQ _ _ _ ?_ (AaC ?_)).1
          ·simp [Try.f59,F6]
          ·simp [F6]
        ·replace hF:=AaR h8 hF;have h8_:=Abm h8;have h8__:=Abo h8;have F7:=A9 h1_ h1__ h2_ h2__ h3 h3_ h4_ h4__ (A9 h5_ h5__ h6_ h6__ h7_ h7__ h8 h8_ h8__);refine TL F7 g r [2,3] [(4,AV.bool false)] [0,1] [] 2 ?_;simp only [Option.some.injEq] at hF;subst hF;refine AW.ret (hQ _ _ _ ?_ (AaC ?_)).1
         ·simp [Try.f59,F7]
         ·simp [F7]
       ·replace hF:=AaR h7 hF;have h7_:=Abm h7;have h7__:=Abo h7;have F8:=A9 h1_ h1__ h2_ h2__ h3 h3_ h4_ h4__ (A7 h5_ h5__ h6_ h6__ h7 h7_ h7__);refine TL F8 g r [2,3] [(4,AV.bool false)] [0,1] [] 2 ?_;simp only [Option.some.injEq] at hF;subst hF;refine AW.ret (hQ _ _ _ ?_ (AaC ?_)).1
        ·simp [Try.f59,F8]
        ·simp [F8]
      ·replace hF:=AaR h6 hF;have h6_:=Abm h6;have h6__:=Abo h6;have F9:=A9 h1_ h1__ h2_ h2__ h3 h3_ h4_ h4__ (A5 h5_ h5__ h6 h6_ h6__);refine TL F9 g r [2,3] [(4,AV.bool false)] [0,1] [] 2 ?_;simp only [Option.some.injEq] at hF;subst hF;refine AW.ret (hQ _ _ _ ?_ (AaC ?_)).1
       ·simp [Try.f59,F9]
       ·simp [F9]
     ·replace hF:=AaR h5 hF;have h5_:=Abm h5;have h5__:=Abo h5;have F10:=A9 h1_ h1__ h2_ h2__ h3 h3_ h4_ h4__ (A3 h5 h5_ h5__);refine TL F10 g r [2,3] [(4,AV.bool false)] [0,1] [] 2 ?_;simp only [Option.some.injEq] at hF;subst hF;refine AW.ret (hQ _ _ _ ?_ (AaC ?_)).1
      ·simp [Try.f59,F10]
      ·simp [F10]
    ·replace hF:=AaR h4 hF;have h4_:=Abm h4;have h4__:=Abo h4;have F11:=A9 h1_ h1__ h2_ h2__ h3 h3_ h4 h4_ h4__;refine TL F11 g r [2,3] [(4,AV.bool false)] [0,1] [] 2 ?_;simp only [Option.some.injEq] at hF;subst hF;refine AW.ret (hQ _ _ _ ?_ (AaC ?_)).1
     ·simp [Try.f59,F11]
     ·simp [F11]
   ·replace hF:=AaR h3 hF;have h3_:=h3;try simp at h3_
    have F12:=A6 h1_ h1__ h2_ h2__ h3 h3_;refine TL F12 g r [2,3] [(4,AV.bool false)] [0,1] [] 2 ?_;simp only [Option.some.injEq] at hF;subst hF;refine AW.ret (hQ _ _ _ ?_ (AaC ?_)).1
    ·simp [Try.f59,F12]
    ·simp [F12]
  ·replace hF:=AaR h2 hF;have h2_:=Abm h2;have h2__:=Abo h2;have F13:=A5 h1_ h1__ h2 h2_ h2__;refine TL F13 g r [2,3] [(4,AV.bool false)] [0,1] [] 2 ?_;simp only [Option.some.injEq] at hF;subst hF;refine AW.ret (hQ _ _ _ ?_ (AaC ?_)).1
   ·simp [Try.f59,F13]
   ·simp [F13]
 ·replace hF:=AaR h1 hF;have h1_:=Abm h1;have h1__:=Abo h1;have F14:=A3 h1 h1_ h1__;refine TL F14 g r [2,3] [(4,AV.bool false)] [0,1] [] 2 ?_;simp only [Option.some.injEq] at hF;subst hF;refine AW.ret (hQ _ _ _ ?_ (AaC ?_)).1
  ·simp [Try.f59,F14]
  ·simp [F14]
abbrev Aei (v0 : Int) (v1 : Int) (v2 : ByteArray) (v3 : Int) (v4 : Int) (v5 : Int) (v6 : Int) (v7 : Int) (v8 : (List Int)) (v9 : (List AaA)) (v10 : ByteArray) (v11 : Int) (v12 : ByteArray) : Aaq := .cells [Iz v0,Iz v1,AV.str v2,Iz v3,Iz v4,Iz v5,Iz v6,Iz v7,Lz v8,Q0 v9,AV.str v10,Iz v11,AV.str v12]
abbrev AeL (v13 : Int) (v14 : Int) (v15 : ByteArray) (v16 : Int) (v17 : Int) (v18 : Int) (v19 : Int) (v20 : Int) (v21 : (List Int)) (v22 : (List AaA)) (v23 : ByteArray) (v24 : Int) (v25 : ByteArray) : Aaq := .cells [Iz v13,Iz v14,AV.str v15,Iz v16,Iz v17,Iz v18,Iz v19,Iz v20,Lz v21,Q0 v22,AV.str v23,Iz v24,AV.str v25]
theorem Afn (k : Nat) (v0 : Int) (v1 : Int) (v2 : ByteArray) (v3 : Int) (v4 : Int) (v5 : Int) (v6 : Int) (v7 : Int) (v8 : (List Int)) (v9 : (List AaA)) (v10 : ByteArray) (v11 : Int) (v12 : ByteArray) (v13 : Int) (v14 : Int) (v15 : ByteArray) (v16 : Int) (v17 : Int) (v18 : Int) (v19 : Int) (v20 : Int) (v21 : (List Int)) (v22 : (List AaA)) (v23 : ByteArray) (v24 : Int) (v25 : ByteArray) (v26 : Bool) (hF : AdN k v0 v1 v2 v3 v4 v5 v6 v7 v8 v9 v10 v11 v12 v13 v14 v15 v16 v17 v18 v19 v20 v21 v22 v23 v24 v25=some v26) :
 AbK Try.prog 20 [AV.agg [AV.int .i64 v0,AV.int .i64 v1,AV.str v2,AV.int .i64 v3,AV.int .i64 v4,AV.int .i64 v5,AV.int .i64 v6,AV.int .i64 v7,AV.lst false false (List.map (AV.int .i64) v8),Q0 v9,AV.str v10,AV.int .i64 v11,AV.str v12],AV.agg [AV.int .i64 v13,AV.int .i64 v14,AV.str v15,AV.int .i64 v16,AV.int .i64 v17,AV.int .i64 v18,AV.int .i64 v19,AV.int .i64 v20,AV.lst false false (List.map (AV.int .i64) v21),Q0 v22,AV.str v23,AV.int .i64 v24,AV.str v25]] [] (AV.bool v26) []:=by
 unfold AdN at hF;refine EN Try.func20 ?_;intro c0 w0 Q h0 hQ
 refine WK [(0,AV.agg [Iz v0,Iz v1,AV.str v2,Iz v3,Iz v4,Iz v5,Iz v6,Iz v7,Lz v8,Q0 v9,AV.str v10,Iz v11,AV.str v12]),(1,AV.agg [Iz v13,Iz v14,AV.str v15,Iz v16,Iz v17,Iz v18,Iz v19,Iz v20,Lz v21,Q0 v22,AV.str v23,Iz v24,AV.str v25])] [] 0 (by simp) (by simp) ?_;refine SW trivial [] [none,none,none] [0,1] [(2,AV.ptr 0 0),(3,AV.ptr 1 0)] [] [(0,Aei v0 v1 v2 v3 v4 v5 v6 v7 v8 v9 v10 v11 v12),(1,AeL v13 v14 v15 v16 v17 v18 v19 v20 v21 v22 v23 v24 v25)] 2 ?_;obtain ⟨v27,v28,h1,hF⟩:=AbR hF;refine CL trivial [] [none,none,none,none,none,none,none] (Ad7 k _ _ _ _ _ _ _ _ _ _ _ _ _ _ _ h1) [] [(5,AV.slc 2 0 1 v27.length false),(6,Iz v28)] [] [(2,.grow (List.map (AV.int .u8) v27))] 3 ?_;refine AW.frz 2 (o := .grow (List.map (AV.int .u8) v27)) (by simp) rfl [(5,Lb v27)] [] ⟨(.l (by simp) (by simp) (by simp) (by simp)),trivial⟩ trivial ?_;refine WK [(2,AV.ptr 0 0),(3,AV.ptr 1 0),(5,Lb v27),(6,Iz v28)] [(0,Aei v0 v1 v2 v3 v4 v5 v6 v7 v8 v9 v10 v11 v12),(1,AeL v13 v14 v15 v16 v17 v18 v19 v20 v21 v22 v23 v24 v25)] 3 (by simp) (by simp) ?_;obtain ⟨v29,v30,h2,hF⟩:=AbR hF;refine CL trivial [] [none,none,none,none,none,none,none] (AfU k _ _ _ _ _ _ _ _ _ _ _ _ _ _ _ h2) [] [(7,AV.slc 3 0 1 v29.length false),(8,Iz v30)] [] [(3,.grow (List.map (AV.int .u8) v29))] 4 ?_;refine AW.frz 3 (o := .grow (List.map (AV.int .u8) v29)) (by simp) rfl [(7,Lb v29)] [] ⟨(.l (by simp) (by simp) (by simp) (by simp)),trivial⟩ trivial ?_;refine WK [(2,AV.ptr 0 0),(3,AV.ptr 1 0),(5,Lb v27),(6,Iz v28),(7,Lb v29),(8,Iz v30)] [(0,Aei v0 v1 v2 v3 v4 v5 v6 v7 v8 v9 v10 v11 v12),(1,AeL v13 v14 v15 v16 v17 v18 v19 v20 v21 v22 v23 v24 v25)] 4 (by simp) (by simp) ?_;refine SR [] [none,none,none,none,none,none,some (24,true),some (24,true),some (24,true),some (24,true),some (24,true),some (24,true),some (24,true),none,none,some (33,true),some (33,true),some (33,true),some (33,true),some (33,true),none,none,some (40,true),some (40,true),some (40,true),some (40,true),some (40,true),none,none,some (47,true),some (47,true),some (47,true),some (47,true),some (47,true),none,none,some (54,true),some (54,true),some (54,true),none,none,some (59,true),some (59,true),some (59,true),some (59,true),some (59,true),none,none,some (66,true),some (66,true),some (66,true),some (66,true),some (66,true),some (66,true),some (66,true),none,none,some (75,true),some (75,true),some (75,true),none,none] fun _ _ g r=>?_;try simp
 and_intros
 try any_goals first | omega | (simp [maxLen] <;> omega)
 obtain ⟨v31,h3,hF⟩:=AaF hF;refine AC (AcL k _ _ _ _ _ _ _ _ _ _ _ _ _ _ h3) (.cons (.same (by simp)) .nil) ?_;try simp
 and_intros
 try any_goals first | omega | (simp [maxLen] <;> omega)
 obtain ⟨v32,h4,hF⟩:=AaF hF;refine AC (Aed k _ _ _ _ _ _ _ _ _ _ _ _ _ _ h4) (.cons (.same (by simp)) .nil) ?_;by_cases h5 : v31=v32
 ·replace hF:=AaQ h5 hF;have h5q : v31=v32:=h5;have h5_:=Abr h5q;have h5__:=Abp h5q;try simp [h5_,h5__]
  and_intros
  try any_goals first | omega | (simp [h5_,h5__,maxLen] <;> omega)
  obtain ⟨v33,h6,hF⟩:=AaF hF;refine AC (AdJ k _ _ _ _ _ _ _ _ _ _ _ _ _ _ h6) (.cons (.same (by simp [h5_,h5__])) .nil) ?_;try simp [h5_,h5__]
  and_intros
  try any_goals first | omega | (simp [h5_,h5__,maxLen] <;> omega)
  obtain ⟨v34,h7,hF⟩:=AaF hF;refine AC (Aee k _ _ _ _ _ _ _ _ _ _ _ _ _ _ h7) (.cons (.same (by simp [h5_,h5__])) .nil) ?_;by_cases h8 : (AbZ (ofI v33) (ofI v34))=true
  ·replace hF:=AaQ h8 hF;have h8_:=h8;try simp at h8_
   have F1:=A4 h5_ h5__ h8 h8_;try simp [F1]
   and_intros
   try any_goals first | omega | (simp [maxLen,F1] <;> omega)
   obtain ⟨v35,h9,hF⟩:=AaF hF;refine AC (Acb k _ _ _ _ _ _ _ _ _ _ _ _ _ _ h9) (.cons (.same (by simp [F1])) .nil) ?_;try simp [F1]
   and_intros
   try any_goals first | omega | (simp [maxLen,F1] <;> omega)
   obtain ⟨v36,h10,hF⟩:=AaF hF;refine AC (AeI k _ _ _ _ _ _ _ _ _ _ _ _ _ _ h10) (.cons (.same (by simp [F1])) .nil) ?_;by_cases h11 : (AbZ v35 v36)=true
   ·replace hF:=AaQ h11 hF;have h11_:=h11;try simp at h11_
    have F2:=A3 F1 h11 h11_;try simp [F2]
    and_intros
    try any_goals first | omega | (simp [maxLen,F2] <;> omega)
    obtain ⟨v37,h12,hF⟩:=AaF hF;refine AC (AcD k _ _ _ _ _ _ _ _ _ _ _ _ _ _ h12) (.cons (.same (by simp [F2])) .nil) ?_;try simp [F2]
    and_intros
    try any_goals first | omega | (simp [maxLen,F2] <;> omega)
    obtain ⟨v38,h13,hF⟩:=AaF hF;refine AC (AeG k _ _ _ _ _ _ _ _ _ _ _ _ _ _ h13) (.cons (.same (by simp [F2])) .nil) ?_;by_cases h14 : (v37==v38)=true
    ·replace hF:=AaQ h14 hF;have h14_:=h14;try simp at h14_
     have F3:=A3 F2 h14 h14_;try simp [F3]
     and_intros
     try any_goals first | omega | (simp [maxLen,F3] <;> omega)
     obtain ⟨v39,h15,hF⟩:=AaF hF;refine AC (Ael k _ _ _ _ _ _ _ _ _ _ _ _ _ _ h15) (.cons (.same (by simp [F3])) .nil) ?_;try simp [F3]
     and_intros
     try any_goals first | omega | (simp [maxLen,F3] <;> omega)
     obtain ⟨v40,h16,hF⟩:=AaF hF;refine AC (AgM k _ _ _ _ _ _ _ _ _ _ _ _ _ _ h16) (.cons (.same (by simp [F3])) .nil) ?_;try simp [F3]
     and_intros
     try any_goals first | omega | (simp [maxLen,F3] <;> omega)
     obtain ⟨v41,h17,hF⟩:=AaF hF;refine AC (Ae1 k _ _ _ _ _ _ _ _ _ _ _ _ _ _ _ _ _ _ _ _ _ _ _ _ _ _ _ h17) (.cons (.same (by simp [F3])) (.cons (.same (by simp [F3])) .nil)) ?_;by_cases h18 : v41=true
     ·replace hF:=AaQ h18 hF;have h18_:=h18;try simp at h18_
      by_cases h19 : v28=v30
      ·replace hF:=AaQ h19 hF;have h19q : v28=v30:=h19;have h19_:=Abr h19q;have h19__:=Abp h19q;by_cases h20 : (AbZ (ofI v27) (ofI v29))=true
       ·replace hF:=AaQ h20 hF;have h20_:=h20;try simp at h20_
        have F4:=A7 F3 h18 h18_ h19_ h19__ h20 h20_;try simp [F4]
        and_intros
        try any_goals first | omega | (simp [maxLen,F4] <;> omega)
        obtain ⟨v42,h21,hF⟩:=AaF hF;refine AC (Ac1 k _ _ _ _ _ _ _ _ _ _ _ _ _ _ _ _ _ _ _ _ _ _ _ _ _ _ _ h21) (.cons (.same (by simp [F4])) (.cons (.same (by simp [F4])) .nil)) ?_;try simp [F4]
        and_intros
        try any_goals first | omega | (simp [maxLen,F4] <;> omega)
        obtain ⟨v43,h22,hF⟩:=AaF hF;refine AC (Ae1 k _ _ _ _ _ _ _ _ _ _ _ _ _ _ _ _ _ _ _ _ _ _ _ _ _ _ _ h22) (.cons (.same (by simp [F4])) (.cons (.same (by simp [F4])) .nil)) ?_;by_cases h23 : (v42==v43)=true
        ·replace hF:=AaQ h23 hF;have h23_:=h23;try simp at h23_
         have F5:=A3 F4 h23 h23_;try simp [F5]
         and_intros
         try any_goals first | omega | (simp [maxLen,F5] <;> omega)
         obtain ⟨v44,h24,hF⟩:=AaF hF;refine AC (Ac1 k _ _ _ _ _ _ _ _ _ _ _ _ _ _ _ _ _ _ _ _ _ _ _ _ _ _ _ h24) (.cons (.same (by simp [F5])) (.cons (.same (by simp [F5])) .nil)) ?_;refine TL F5 g r [2,3,5,6,7,8] [(4,AV.bool v44)] [0,1] [] 6 ?_;simp only [Option.some.injEq] at hF;subst hF;refine AW.ret (hQ _ _ _ ?_ (AaC ?_)).1
         ·simp [Try.f20,F5]
         ·simp [F5]
        ·replace hF:=AaR h23 hF;have h23_:=h23;try simp at h23_
         have F6:=A3 F4 h23 h23_;refine TL F6 g r [2,3,5,6,7,8] [(4,AV.bool false)] [0,1] [] 6 ?_;simp only [Option.some.injEq] at hF;subst hF;refine AW.ret (hQ _ _ _ ?_ (AaC ?_)).1
         ·simp [Try.f20,F6]
         ·simp [F6]
       ·replace hF:=AaR h20 hF;have h20_:=h20;try simp at h20_
        have F7:=A7 F3 h18 h18_ h19_ h19__ h20 h20_;refine TL F7 g r [2,3,5,6,7,8] [(4,AV.bool false)] [0,1] [] 6 ?_;simp only [Option.some.injEq] at hF;subst hF;refine AW.ret (hQ _ _ _ ?_ (AaC ?_)).1
        ·simp [Try.f20,F7]
        ·simp [F7]
      ·replace hF:=AaR h19 hF;have h19_:=Abm h19;have h19__:=Abo h19;have F8:=A6 F3 h18 h18_ h19 h19_ h19__;refine TL F8 g r [2,3,5,6,7,8] [(4,AV.bool false)] [0,1] [] 6 ?_;simp only [Option.some.injEq] at hF;subst hF;refine AW.ret (hQ _ _ _ ?_ (AaC ?_)).1
       ·simp [Try.f20,F8]
       ·simp [F8]
     ·replace hF:=AaR h18 hF;have h18_:=h18;try simp at h18_
      have F9:=A3 F3 h18 h18_;refine TL F9 g r [2,3,5,6,7,8] [(4,AV.bool false)] [0,1] [] 6 ?_;simp only [Option.some.injEq] at hF;subst hF;refine AW.ret (hQ _ _ _ ?_ (AaC ?_)).1
      ·simp [Try.f20,F9]
      ·simp [F9]
    ·replace hF:=AaR h14 hF;have h14_:=h14;try simp at h14_
     have F10:=A3 F2 h14 h14_;refine TL F10 g r [2,3,5,6,7,8] [(4,AV.bool false)] [0,1] [] 6 ?_;simp only [Option.some.injEq] at hF;subst hF;refine AW.ret (hQ _ _ _ ?_ (AaC ?_)).1
     ·simp [Try.f20,F10]
     ·simp [F10]
   ·replace hF:=AaR h11 hF;have h11_:=h11;try simp at h11_
    have F11:=A3 F1 h11 h11_;refine TL F11 g r [2,3,5,6,7,8] [(4,AV.bool false)] [0,1] [] 6 ?_;simp only [Option.some.injEq] at hF;subst hF;refine AW.ret (hQ _ _ _ ?_ (AaC ?_)).1
    ·simp [Try.f20,F11]
    ·simp [F11]
  ·replace hF:=AaR h8 hF;have h8_:=h8;try simp at h8_
   have F12:=A4 h5_ h5__ h8 h8_;refine TL F12 g r [2,3,5,6,7,8] [(4,AV.bool false)] [0,1] [] 6 ?_;simp only [Option.some.injEq] at hF;subst hF;refine AW.ret (hQ _ _ _ ?_ (AaC ?_)).1
   ·simp [Try.f20,F12]
   ·simp [F12]
 ·replace hF:=AaR h5 hF;have h5_:=Abm h5;have h5__:=Abo h5;have F13:=A3 h5 h5_ h5__;refine TL F13 g r [2,3,5,6,7,8] [(4,AV.bool false)] [0,1] [] 4 ?_;simp only [Option.some.injEq] at hF;subst hF;refine AW.ret (hQ _ _ _ ?_ (AaC ?_)).1
  ·simp [Try.f20,F13]
  ·simp [F13]
theorem AgN (k : Nat) (v0 : (List Int)) (v1 : (List Int)) (hF : Adw k v0=some v1) :
 AbK Try.prog 127 [AV.lst false false (List.map (AV.int .u8) v0)] [] (AV.slc 0 0 1 v1.length false) [some (.grow (List.map (AV.int .u8) v1))]:=by
 unfold Adw at hF;refine EN Try.func127 ?_;intro c0 w0 Q h0 hQ
 refine WK [(0,Lb v0)] [] 0 (by simp) (by simp) ?_;refine SW trivial [] [none] [] [] [] [] 0 ?_;refine SR [4] [none,none,none] fun _ _ g r=>?_;obtain ⟨h1,hF⟩:=AaS hF;have h1_:=h1;try simp at h1_
 refine TL h1 g r [0] [(2,AV.slc 0 0 1 v0.length false)] [] [(0,.grow (List.map (AV.int .u8) v0))] 1 ?_;simp only [Option.some.injEq] at hF;subst hF;refine AW.ret (hQ _ _ _ ?_ (AaC ?_)).1
 ·simp [Try.f127,h1]
 ·simp [h1]
theorem AdD (k : Nat) (v0 : (List Int)) (v1 : Int) (v2 : (List Int)) (v3 : Bool) (hF : AbG k v0=some (v1,v2,v3)) :
 AbK Try.prog 119 [AV.lst false false (List.map (AV.int .u8) v0)] [] (AV.tup [AV.int .i64 v1,AV.slc 0 0 1 v2.length false,AV.bool v3]) [some (.grow (List.map (AV.int .u8) v2))]:=by
 unfold AbG at hF;refine EN Try.func119 ?_;intro c0 w0 Q h0 hQ
 refine WK [(0,Lb v0)] [] 0 (by simp) (by simp) ?_;refine SW trivial [] [none,none,none] [] [] [] [] 0 ?_;refine AW.seq fun K73 hK73=>?_;refine SW trivial [] [none,none,none] [] [(9,AV.bool (decide ((v0.length : Int)<8)))] [] [] 0 ?_;by_cases h1 : (v0.length : Int)<8
 ·replace hF:=AaQ h1 hF;have h1_:=h1;try simp at h1_
  refine CT (by simp [h1,h1_] <;> omega) ?_;refine SW (A2 h1 h1_) [] [none,none,none] [0,9] [(2,Iz 0),(3,AV.lst true true (List.map (AV.int .u8) ([] : List Int))),(4,AV.bool false)] [] [] 0 ?_;refine AW.own' 3 1 true (by simp [h1,h1_]) (by decide) ?_;simp only [Option.some.injEq,Prod.mk.injEq] at hF;obtain ⟨e0,e1,e2⟩:=hF;subst e0 e1 e2;refine AW.ret (hQ _ _ _ ?_ (AaC ?_)).1
  ·simp [Try.f119,h1,h1_]
  ·simp [h1,h1_]
 ·replace hF:=AaR h1 hF;have h1_:=h1;try simp at h1_
  refine CF (by simp [h1,h1_] <;> omega) ?_;refine AW.skip ?_;refine hK73 _ _ _ ?_;refine SW (A2 h1 h1_) [] [none] [9] [(5,AV.int .u64 0)] [] [] 0 ?_;refine AW.seq fun K107 hK107=>?_;refine SW (A2 h1 h1_) [] [none] [] [(6,Iz 0)] [] [] 0 ?_;refine AW.block ?_;refine AW.loopF (α:=(Int×Int)) (fun n (v4,v5)=>AbG.L1 k v0 n v4 v5=some (v1,v2,v3)) (fun (v4,v5)=>[(0,Lb v0),(5,AV.int .u64 v4),(6,Iz v5)]) (fun (v4,v5)=>[]) 0 k ((0,0)) hF (by simp [h1,h1_]) (by simp [h1,h1_]) (by simp) ?_;rintro (_|n1) ⟨v4,v5⟩ hF K130 hK130
  ·try dsimp only at hF
   rw [AbG.L1] at hF; cases hF
  try dsimp only at hF
  rw [AbG.L1] at hF;refine AW.seq fun K132 hK132=>?_;refine SW (A2 h1 h1_) [] [none,none] [] [(11,AV.bool (decide (v5<8)))] [] [] 0 ?_;by_cases h2 : v5<8
  ·replace hF:=AaQ h2 hF;have h2_:=h2;try simp at h2_
   have F1:=A4 h1 h1_ h2 h2_;refine CT (by simp [F1] <;> omega) ?_;refine AW.skip ?_;refine hK132 _ _ _ ?_;refine AW.seq fun K135 hK135=>?_;refine AW.block ?_;refine RG [] [none,none,none,none,none,none,none,none,none] fun _ _ g r=>?_;obtain ⟨v6,h3,h4,h5,hF⟩:=Aah hF;have h5_:=Aa7 h5;try simp at h5_
   have h4_:=h4;try simp at h4_
   have F2:=A6 F1 h3 h4 h5 h5_ h4_;try simp [F2]
   and_intros <;> first | exact GK g | apply r | omega | (simp [maxLen,F2] <;> omega)
   refine hK135 _ _ _ ?_;refine WK [(0,Lb v0),(5,AV.int .u64 (AaG .or .u64 (IntKind.wrap .u64 (v4*2 ^ (8))) (IntKind.wrap .u64 v6))),(6,Iz v5)] [] 0 (by simp [F2]) (by simp [F2]) ?_;refine RG [] [none,none,none] fun _ _ g r=>?_;try simp [F2]
   and_intros <;> first | exact GK g | apply r | omega | (simp [maxLen,F2] <;> omega)
   refine hK130 _ _ _ ?_;exact NX (k':=n1) ((AaG .or .u64 (IntKind.wrap .u64 (v4*2 ^ (8))) (IntKind.wrap .u64 v6),IntKind.wrap .i64 (v5+1))) hF (by simp [F2]) (by simp [F2])
  ·replace hF:=AaR h2 hF;have h2_:=h2;try simp at h2_
   have F3:=A4 h1 h1_ h2 h2_;refine CF (by simp [F3] <;> omega) ?_;refine AW.exit ?_;try simp
   refine hK107 _ _ _ ?_;refine SR [] [none,none,none,none,none,none,none,none] fun _ _ g r=>?_;obtain ⟨h6,hF⟩:=AaS hF;have h6_:=h6;try simp at h6_
   have F4:=A3 F3 h6 h6_;try simp [F4]
   and_intros
   try any_goals first | omega | (simp [maxLen,F4] <;> omega)
   obtain ⟨v7,h7,hF⟩:=AaF hF;refine AC (AgN k _ _ h7) (.cons (.same (by simp [F4])) .nil) ?_;refine TL F4 g r [0,5,6] [(2,Iz (IntKind.wrap .i64 v4)),(3,AV.slc 0 0 1 v7.length false),(4,AV.bool true)] [] [(0,.grow (List.map (AV.int .u8) v7))] 1 ?_;simp only [Option.some.injEq,Prod.mk.injEq] at hF;obtain ⟨e0,e1,e2⟩:=hF;subst e0 e1 e2;refine AW.ret (hQ _ _ _ ?_ (AaC ?_)).1
   ·simp [Try.f119,F4]
   ·simp [F4]
theorem AbF (k : Nat) (v0 : (List Int)) (v1 : Bool) (v2 : Int) (v3 : (List Int)) (v4 : Bool) (hF : Aau k v0 v1=some (v2,v3,v4)) :
 AbK Try.prog 102 [AV.ptr 0 0] [.cells [AV.lst false false (List.map (AV.int .u8) v0),AV.bool v1]] (AV.int .i64 v2) [some (.cells [AV.lst false false (List.map (AV.int .u8) v3),AV.bool v4])]:=by
 unfold Aau at hF;refine EN Try.func102 ?_;intro c0 w0 Q h0 hQ
 refine WK [(0,AV.ptr 0 0)] [(0,.cells [Lb v0,AV.bool v1])] 1 (by simp) (by simp) ?_;refine SW trivial [] [none] [] [] [] [] 1 ?_;obtain ⟨v5,v6,v7,h1,hF⟩:=AbC hF;refine CL trivial [] [none,none,none,none,none,none,none,none,none,none,none,none] (AdD k _ _ _ _ h1) [] [(3,Iz v5),(4,AV.slc 1 0 1 v6.length false),(5,AV.bool v7)] [] [(1,.grow (List.map (AV.int .u8) v6))] 2 ?_;refine AW.frz 1 (o := .grow (List.map (AV.int .u8) v6)) (by simp) rfl [(4,Lb v6)] [] ⟨(.l (by simp) (by simp) (by simp) (by simp)),trivial⟩ trivial ?_;refine WK [(0,AV.ptr 0 0),(3,Iz v5),(4,Lb v6),(5,AV.bool v7)] [(0,.cells [Lb v0,AV.bool v1])] 2 (by simp) (by simp) ?_;refine SR [] [none,none,none,none,none,none,none,none,some (22,true),none,none,none,none,none,none,none] fun _ _ g r=>?_;by_cases h2 : v1=true
 ·replace hF:=AaQ h2 hF;have h2_:=h2;try simp at h2_
  refine TL (A2 h2 h2_) g r [0,4,5] [] [0] [(0,.cells [Lb v6,AV.bool v7])] 2 ?_;refine SW (A2 h2 h2_) [] [none,none] [3] [(2,Iz v5)] [] [] 2 ?_;simp only [Option.some.injEq,Prod.mk.injEq] at hF;obtain ⟨e0,e1,e2⟩:=hF;subst e0 e1 e2;refine AW.ret (hQ _ _ _ ?_ (AaC ?_)).1
  ·simp [Try.f102,h2,h2_]
  ·simp [h2,h2_]
 ·replace hF:=AaR h2 hF;have h2_:=h2;try simp at h2_
  refine TL (A2 h2 h2_) g r [0,4,5] [] [0] [(0,.cells [Lb v6,AV.bool false])] 2 ?_;refine SW (A2 h2 h2_) [] [none,none] [3] [(2,Iz v5)] [] [] 2 ?_;simp only [Option.some.injEq,Prod.mk.injEq] at hF;obtain ⟨e0,e1,e2⟩:=hF;subst e0 e1 e2;refine AW.ret (hQ _ _ _ ?_ (AaC ?_)).1
  ·simp [Try.f102,h2,h2_]
  ·simp [h2,h2_]
theorem Agd (k : Nat) (v0 : (List Int)) (v1 : Int) (v2 : ByteArray) (v3 : (List Int)) (v4 : Bool) (hF : Acz k v0 v1=some (v2,v3,v4)) :
 AbK Try.prog 120 [AV.lst false false (List.map (AV.int .u8) v0),AV.int .i64 v1] [] (AV.tup [AV.str v2,AV.slc 0 0 1 v3.length false,AV.bool v4]) [some (.grow (List.map (AV.int .u8) v3))]:=by
 unfold Acz at hF;refine EN Try.func120 ?_;intro c0 w0 Q h0 hQ
 refine WK [(0,Lb v0),(1,Iz v1)] [] 0 (by simp) (by simp) ?_;refine SW trivial [] [none,none,none] [] [] [] [] 0 ?_;obtain ⟨v5,v6,v7,h1,hF⟩:=AbC hF;refine CL trivial [] [none,none,none,none,none,none,none,none,none] (AdD k _ _ _ _ h1) [0] [(0,AV.slc 0 0 1 v6.length false),(7,Iz v5),(8,AV.bool v7)] [] [(0,.grow (List.map (AV.int .u8) v6))] 1 ?_;refine AW.frz 0 (o := .grow (List.map (AV.int .u8) v6)) (by simp) rfl [(0,Lb v6)] [] ⟨(.l (by simp) (by simp) (by simp) (by simp)),trivial⟩ trivial ?_;refine WK [(0,Lb v6),(1,Iz v1),(7,Iz v5),(8,AV.bool v7)] [] 1 (by simp) (by simp) ?_;refine AW.seq fun K22 hK22=>?_;refine SR [] [none,none,none,some (17,false),some (17,false),none,none,some (21,false),some (21,false),some (21,false),none,none,some (26,false),some (26,false),some (26,false),some (26,false),none] fun _ _ g r=>?_;by_cases h2 : (!v7)=true
 ·replace hF:=AaQ h2 hF;have h2_:=h2;try simp at h2_
  refine TL (A2 h2 h2_) g r [1,8] [(31,AV.bool true)] [] [] 1 ?_;refine CT (by simp [h2,h2_]) ?_;refine SW (A2 h2 h2_) [] [none,none,none] [0,7,31] [(4,AV.str (ByteArray.mk #[])),(5,AV.lst true true (List.map (AV.int .u8) ([] : List Int))),(6,AV.bool false)] [] [] 1 ?_;refine AW.own' 5 1 true (by simp [h2,h2_]) (by decide) ?_;refine RM h0 [(0,1)] [(4,AV.str (ByteArray.mk #[])),(5,AV.slc 0 0 1 (([] : List Int).length) false),(6,AV.bool false)] [(0,.grow (List.map (AV.int .u8) ([] : List Int)))] 1 (by simp [h2,h2_]) (by simp [h2,h2_]) ?_;simp only [Option.some.injEq,Prod.mk.injEq] at hF;obtain ⟨e0,e1,e2⟩:=hF;subst e0 e1 e2;refine AW.ret (hQ _ _ _ ?_ (AaC ?_)).1
  ·simp [Try.f120,h2,h2_]
  ·simp [h2,h2_]
 ·replace hF:=AaR h2 hF;have h2_:=h2;try simp at h2_
  by_cases h3 : v5<0
  ·replace hF:=AaQ h3 hF;have h3_:=h3;try simp at h3_
   have F1:=A4 h2 h2_ h3 h3_;refine TL F1 g r [1,8] [(31,AV.bool true)] [] [] 1 ?_;refine CT (by simp [F1]) ?_;refine SW F1 [] [none,none,none] [0,7,31] [(4,AV.str (ByteArray.mk #[])),(5,AV.lst true true (List.map (AV.int .u8) ([] : List Int))),(6,AV.bool false)] [] [] 1 ?_;refine AW.own' 5 1 true (by simp [F1]) (by decide) ?_;refine RM h0 [(0,1)] [(4,AV.str (ByteArray.mk #[])),(5,AV.slc 0 0 1 (([] : List Int).length) false),(6,AV.bool false)] [(0,.grow (List.map (AV.int .u8) ([] : List Int)))] 1 (by simp [F1]) (by simp [F1]) ?_;simp only [Option.some.injEq,Prod.mk.injEq] at hF;obtain ⟨e0,e1,e2⟩:=hF;subst e0 e1 e2;refine AW.ret (hQ _ _ _ ?_ (AaC ?_)).1
   ·simp [Try.f120,F1]
   ·simp [F1]
  ·replace hF:=AaR h3 hF;have h3_:=h3;try simp at h3_
   by_cases h4 : v1<v5
   ·replace hF:=AaQ h4 hF;have h4_:=h4;try simp at h4_
    have F2:=A6 h2 h2_ h3 h3_ h4 h4_;refine TL F2 g r [1,8] [(31,AV.bool true)] [] [] 1 ?_;refine CT (by simp [F2]) ?_;refine SW F2 [] [none,none,none] [0,7,31] [(4,AV.str (ByteArray.mk #[])),(5,AV.lst true true (List.map (AV.int .u8) ([] : List Int))),(6,AV.bool false)] [] [] 1 ?_;refine AW.own' 5 1 true (by simp [F2]) (by decide) ?_;refine RM h0 [(0,1)] [(4,AV.str (ByteArray.mk #[])),(5,AV.slc 0 0 1 (([] : List Int).length) false),(6,AV.bool false)] [(0,.grow (List.map (AV.int .u8) ([] : List Int)))] 1 (by simp [F2]) (by simp [F2]) ?_;simp only [Option.some.injEq,Prod.mk.injEq] at hF;obtain ⟨e0,e1,e2⟩:=hF;subst e0 e1 e2;refine AW.ret (hQ _ _ _ ?_ (AaC ?_)).1
    ·simp [Try.f120,F2]
    ·simp [F2]
   ·replace hF:=AaR h4 hF;have h4_:=h4;try simp at h4_
    have F3:=A6 h2 h2_ h3 h3_ h4 h4_;refine TL F3 g r [1,8] [(31,AV.bool (decide ((v6.length : Int)<v5)))] [] [] 1 ?_;by_cases h5 : (v6.length : Int)<v5
    ·replace hF:=AaQ h5 hF;have h5_:=h5;try simp at h5_
     have F4:=A3 F3 h5 h5_;refine CT (by simp [F4] <;> omega) ?_;refine SW F4 [] [none,none,none] [0,7,31] [(4,AV.str (ByteArray.mk #[])),(5,AV.lst true true (List.map (AV.int .u8) ([] : List Int))),(6,AV.bool false)] [] [] 1 ?_;refine AW.own' 5 1 true (by simp [F4]) (by decide) ?_;refine RM h0 [(0,1)] [(4,AV.str (ByteArray.mk #[])),(5,AV.slc 0 0 1 (([] : List Int).length) false),(6,AV.bool false)] [(0,.grow (List.map (AV.int .u8) ([] : List Int)))] 1 (by simp [F4]) (by simp [F4]) ?_;simp only [Option.some.injEq,Prod.mk.injEq] at hF;obtain ⟨e0,e1,e2⟩:=hF;subst e0 e1 e2;refine AW.ret (hQ _ _ _ ?_ (AaC ?_)).1
     ·simp [Try.f120,F4]
     ·simp [F4]
    ·replace hF:=AaR h5 hF;have h5_:=h5;try simp at h5_
     have F5:=A3 F3 h5 h5_;refine CF (by simp [F5] <;> omega) ?_;refine AW.skip ?_;refine hK22 _ _ _ ?_;refine SQ [] [none,none,none,none,none,none,none,none,none,none,none] fun _ _ g r=>?_;obtain ⟨⟨h6,h7⟩,hF⟩:=AaS hF;have h6_:=h6;try simp at h6_
     have h7_:=h7;try simp at h7_
     obtain ⟨⟨h8,h9⟩,hF⟩:=AaS hF;have h8_:=h8;try simp at h8_
     have h9_:=h9;try simp at h9_
     have F6:=A9 F5 h6 h7 h6_ h7_ h8 h9 h8_ h9_;try simp [F6]
     and_intros
     try any_goals first | omega | (simp [maxLen,F6] <;> omega)
     obtain ⟨v8,h10,hF⟩:=AaF hF;refine AC (AgN k _ _ h10) (.cons (.same (by simp [F6])) .nil) ?_;try simp [F6]
     and_intros <;> first | exact GK g | apply r | omega | (simp [maxLen,F6] <;> omega)
     refine RM h0 [(0,1)] [(4,AV.str (ofI (v6.take (v5).toNat))),(5,AV.slc 0 0 1 v8.length false),(6,AV.bool true)] [(0,.grow (List.map (AV.int .u8) v8))] 1 (by simp [F6]) (by simp [F6]) ?_;simp only [Option.some.injEq,Prod.mk.injEq] at hF;obtain ⟨e0,e1,e2⟩:=hF;subst e0 e1 e2;refine AW.ret (hQ _ _ _ ?_ (AaC ?_)).1
     ·simp [Try.f120,F6]
     ·simp [F6]
theorem AcT (k : Nat) (v0 : (List Int)) (v1 : Bool) (v2 : Int) (v3 : ByteArray) (v4 : (List Int)) (v5 : Bool) (hF : AbE k v0 v1 v2=some (v3,v4,v5)) :
 AbK Try.prog 103 [AV.ptr 0 0,AV.int .i64 v2] [.cells [AV.lst false false (List.map (AV.int .u8) v0),AV.bool v1]] (AV.str v3) [some (.cells [AV.lst false false (List.map (AV.int .u8) v4),AV.bool v5])]:=by
 unfold AbE at hF;refine EN Try.func103 ?_;intro c0 w0 Q h0 hQ
 refine WK [(0,AV.ptr 0 0),(1,Iz v2)] [(0,.cells [Lb v0,AV.bool v1])] 1 (by simp) (by simp) ?_;refine SW trivial [] [none] [] [] [] [] 1 ?_;obtain ⟨v6,v7,v8,h1,hF⟩:=AbC hF;refine CL trivial [] [none,none,none,none,none,none,none,none,none,none,none,none,none] (Agd k _ _ _ _ _ h1) [1] [(5,AV.str v6),(6,AV.slc 1 0 1 v7.length false),(7,AV.bool v8)] [] [(1,.grow (List.map (AV.int .u8) v7))] 2 ?_;refine AW.frz 1 (o := .grow (List.map (AV.int .u8) v7)) (by simp) rfl [(6,Lb v7)] [] ⟨(.l (by simp) (by simp) (by simp) (by simp)),trivial⟩ trivial ?_;refine WK [(0,AV.ptr 0 0),(5,AV.str v6),(6,Lb v7),(7,AV.bool v8)] [(0,.cells [Lb v0,AV.bool v1])] 2 (by simp) (by simp) ?_;refine SR [] [none,none,none,none,none,none,none,none,some (25,true),none,none,none,none,none,none,none] fun _ _ g r=>?_;by_cases h2 : v1=true
 ·replace hF:=AaQ h2 hF;have h2_:=h2;try simp at h2_
  refine TL (A2 h2 h2_) g r [0,6,7] [] [0] [(0,.cells [Lb v7,AV.bool v8])] 2 ?_;refine SW (A2 h2 h2_) [] [none,none] [5] [(4,AV.str v6)] [] [] 2 ?_;simp only [Option.some.injEq,Prod.mk.injEq] at hF;obtain ⟨e0,e1,e2⟩:=hF;subst e0 e1 e2;refine AW.ret (hQ _ _ _ ?_ (AaC ?_)).1
  ·simp [Try.f103,h2,h2_]
  ·simp [h2,h2_]
 ·replace hF:=AaR h2 hF;have h2_:=h2;try simp at h2_
  refine TL (A2 h2 h2_) g r [0,6,7] [] [0] [(0,.cells [Lb v7,AV.bool false])] 2 ?_;refine SW (A2 h2 h2_) [] [none,none] [5] [(4,AV.str v6)] [] [] 2 ?_;simp only [Option.some.injEq,Prod.mk.injEq] at hF;obtain ⟨e0,e1,e2⟩:=hF;subst e0 e1 e2;refine AW.ret (hQ _ _ _ ?_ (AaC ?_)).1
  ·simp [Try.f103,h2,h2_]
  ·simp [h2,h2_]
theorem Age (k : Nat) (v0 : (List Int)) (v1 : Int) (v2 : (List Int)) (v3 : (List Int)) (v4 : Bool) (hF : AbB k v0 v1=some (v2,v3,v4)) :
 AbK Try.prog 104 [AV.lst false false (List.map (AV.int .u8) v0),AV.int .i64 v1] [] (AV.tup [AV.slc 0 0 1 v2.length false,AV.slc 1 0 1 v3.length false,AV.bool v4]) [some (Gi v2),some (.grow (List.map (AV.int .u8) v3))]:=by
 unfold AbB at hF;refine EN Try.func104 ?_;intro c0 w0 Q h0 hQ
 refine WK [(0,Lb v0),(1,Iz v1)] [] 0 (by simp) (by simp) ?_;refine SW trivial [] [none,none,none] [] [] [] [] 0 ?_;obtain ⟨v5,v6,v7,h1,hF⟩:=AbC hF;refine CL trivial [] [none,none,none,none,none,none,none,none,none] (AdD k _ _ _ _ h1) [0] [(0,AV.slc 0 0 1 v6.length false),(7,Iz v5),(8,AV.bool v7)] [] [(0,.grow (List.map (AV.int .u8) v6))] 1 ?_;refine AW.seq fun K100 hK100=>?_;refine SR [] [none,none,none,some (22,false),some (22,false),none,none,some (26,false),some (26,false),some (26,false),none,none,some (31,false),some (31,false),some (31,false),some (31,false),some (31,false),none] fun _ _ g r=>?_;by_cases h2 : (!v7)=true
 ·replace hF:=AaQ h2 hF;have h2_:=h2;try simp at h2_
  refine TL (A2 h2 h2_) g r [1,8] [(37,AV.bool true)] [] [] 1 ?_;refine CT (by simp [h2,h2_]) ?_;refine SW (A2 h2 h2_) [] [none,none,none] [0,7,37] [(4,AV.lst true true (List.map (AV.int .i64) ([] : List Int))),(5,AV.lst true true (List.map (AV.int .u8) ([] : List Int))),(6,AV.bool false)] [0] [] 1 ?_;refine AW.own' 4 1 true (by simp [h2,h2_]) (by decide) ?_;refine AW.own' 5 1 true (by simp [h2,h2_]) (by decide) ?_;refine RM h0 [(0,1),(1,2)] [(4,AV.slc 0 0 1 (([] : List Int).length) false),(5,AV.slc 1 0 1 (([] : List Int).length) false),(6,AV.bool false)] [(0,Gi ([] : List Int)),(1,.grow (List.map (AV.int .u8) ([] : List Int)))] 2 (by simp [h2,h2_]) (by simp [h2,h2_]) ?_;simp only [Option.some.injEq,Prod.mk.injEq] at hF;obtain ⟨e0,e1,e2⟩:=hF;subst e0 e1 e2;refine AW.ret (hQ _ _ _ ?_ (AaC ?_)).1
  ·simp [Try.f104,h2,h2_]
  ·simp [h2,h2_]
 ·replace hF:=AaR h2 hF;have h2_:=h2;try simp at h2_
  by_cases h3 : v5<0
  ·replace hF:=AaQ h3 hF;have h3_:=h3;try simp at h3_
   have F1:=A4 h2 h2_ h3 h3_;refine TL F1 g r [1,8] [(37,AV.bool true)] [] [] 1 ?_;refine CT (by simp [F1]) ?_;refine SW F1 [] [none,none,none] [0,7,37] [(4,AV.lst true true (List.map (AV.int .i64) ([] : List Int))),(5,AV.lst true true (List.map (AV.int .u8) ([] : List Int))),(6,AV.bool false)] [0] [] 1 ?_;refine AW.own' 4 1 true (by simp [F1]) (by decide) ?_;refine AW.own' 5 1 true (by simp [F1]) (by decide) ?_;refine RM h0 [(0,1),(1,2)] [(4,AV.slc 0 0 1 (([] : List Int).length) false),(5,AV.slc 1 0 1 (([] : List Int).length) false),(6,AV.bool false)] [(0,Gi ([] : List Int)),(1,.grow (List.map (AV.int .u8) ([] : List Int)))] 2 (by simp [F1]) (by simp [F1]) ?_;simp only [Option.some.injEq,Prod.mk.injEq] at hF;obtain ⟨e0,e1,e2⟩:=hF;subst e0 e1 e2;refine AW.ret (hQ _ _ _ ?_ (AaC ?_)).1
   ·simp [Try.f104,F1]
   ·simp [F1]
  ·replace hF:=AaR h3 hF;have h3_:=h3;try simp at h3_
   by_cases h4 : v1<v5
   ·replace hF:=AaQ h4 hF;have h4_:=h4;try simp at h4_
    have F2:=A6 h2 h2_ h3 h3_ h4 h4_;refine TL F2 g r [1,8] [(37,AV.bool true)] [] [] 1 ?_;refine CT (by simp [F2]) ?_;refine SW F2 [] [none,none,none] [0,7,37] [(4,AV.lst true true (List.map (AV.int .i64) ([] : List Int))),(5,AV.lst true true (List.map (AV.int .u8) ([] : List Int))),(6,AV.bool false)] [0] [] 1 ?_;refine AW.own' 4 1 true (by simp [F2]) (by decide) ?_;refine AW.own' 5 1 true (by simp [F2]) (by decide) ?_;refine RM h0 [(0,1),(1,2)] [(4,AV.slc 0 0 1 (([] : List Int).length) false),(5,AV.slc 1 0 1 (([] : List Int).length) false),(6,AV.bool false)] [(0,Gi ([] : List Int)),(1,.grow (List.map (AV.int .u8) ([] : List Int)))] 2 (by simp [F2]) (by simp [F2]) ?_;simp only [Option.some.injEq,Prod.mk.injEq] at hF;obtain ⟨e0,e1,e2⟩:=hF;subst e0 e1 e2;refine AW.ret (hQ _ _ _ ?_ (AaC ?_)).1
    ·simp [Try.f104,F2]
    ·simp [F2]
   ·replace hF:=AaR h4 hF;have h4_:=h4;try simp at h4_
    have F3:=A6 h2 h2_ h3 h3_ h4 h4_;refine TL F3 g r [1,8] [(37,AV.bool (decide (IntKind.wrap .i64 (Int.tdiv (v6.length : Int) 8)<v5)))] [] [] 1 ?_;by_cases h5 : IntKind.wrap .i64 (Int.tdiv (v6.length : Int) 8)<v5
    ·replace hF:=AaQ h5 hF;have h5_:=h5;try simp at h5_
     have F4:=A3 F3 h5 h5_;refine CT (by simp [F4] <;> omega) ?_;refine SW F4 [] [none,none,none] [0,7,37] [(4,AV.lst true true (List.map (AV.int .i64) ([] : List Int))),(5,AV.lst true true (List.map (AV.int .u8) ([] : List Int))),(6,AV.bool false)] [0] [] 1 ?_;refine AW.own' 4 1 true (by simp [F4]) (by decide) ?_;refine AW.own' 5 1 true (by simp [F4]) (by decide) ?_;refine RM h0 [(0,1),(1,2)] [(4,AV.slc 0 0 1 (([] : List Int).length) false),(5,AV.slc 1 0 1 (([] : List Int).length) false),(6,AV.bool false)] [(0,Gi ([] : List Int)),(1,.grow (List.map (AV.int .u8) ([] : List Int)))] 2 (by simp [F4]) (by simp [F4]) ?_;simp only [Option.some.injEq,Prod.mk.injEq] at hF;obtain ⟨e0,e1,e2⟩:=hF;subst e0 e1 e2;refine AW.ret (hQ _ _ _ ?_ (AaC ?_)).1
     ·simp [Try.f104,F4]
     ·simp [F4]
    ·replace hF:=AaR h5 hF;have h5_:=h5;try simp at h5_
     have F5:=A3 F3 h5 h5_;refine CF (by simp [F5] <;> omega) ?_;refine AW.skip ?_;refine hK100 _ _ _ ?_;refine SW F5 [] [none] [37] [(9,AV.lst true true (List.map (AV.int .i64) ([] : List Int)))] [] [] 1 ?_;refine AW.seq fun K145 hK145=>?_;refine SW F5 [] [none] [] [(10,Iz 0)] [] [] 1 ?_;refine AW.block ?_;refine AW.own' 9 1 true (by simp [F5]) (by decide) ?_;refine AW.loopF (α:=(Int×(List Int)×(List Int))) (fun n (v8,v9,v10)=>AbB.L1 k v5 n v8 v9 v10=some (v2,v3,v4)) (fun (v8,v9,v10)=>[(0,AV.slc 0 0 1 v9.length false),(7,Iz v5),(9,AV.slc 1 0 1 v10.length false),(10,Iz v8)]) (fun (v8,v9,v10)=>[(0,.grow (List.map (AV.int .u8) v9)),(1,Gi v10)]) 2 k ((0,v6,([] : List Int))) hF (by simp [F5]) (by simp [F5]) (by simp) ?_;rintro (_|n1) ⟨v8,v9,v10⟩ hF K174 hK174
     ·try dsimp only at hF
      rw [AbB.L1] at hF; cases hF
     try dsimp only at hF
     rw [AbB.L1] at hF;refine AW.seq fun K176 hK176=>?_;refine SW F5 [] [none,none,none] [] [(40,AV.bool (decide (v8<v5)))] [] [] 2 ?_;by_cases h6 : v8<v5
     ·replace hF:=AaQ h6 hF;have h6_:=h6;try simp at h6_
      have F6:=A3 F5 h6 h6_;refine CT (by simp [F6] <;> omega) ?_;refine AW.skip ?_;refine hK176 _ _ _ ?_;refine WK [(0,AV.slc 0 0 1 v9.length false),(7,Iz v5),(9,AV.slc 1 0 1 v10.length false),(10,Iz v8)] [(0,.grow (List.map (AV.int .u8) v9)),(1,Gi v10)] 2 (by simp [F6]) (by simp [F6]) ?_;refine AW.frz 0 (o := .grow (List.map (AV.int .u8) v9)) (by simp [F6]) rfl [(0,Lb v9)] [] ⟨(.l (by simp) (by simp) (by simp) (by simp)),trivial⟩ trivial ?_;refine WK [(0,Lb v9),(7,Iz v5),(9,AV.slc 1 0 1 v10.length false),(10,Iz v8)] [(1,Gi v10)] 2 (by simp [F6]) (by simp [F6]) ?_;refine AW.seq fun K180 hK180=>?_;refine AW.block ?_;obtain ⟨v11,v12,v13,h7,hF⟩:=AbC hF;refine CL F6 [] [none,none,none,none,none,none,none,none,none] (AdD k _ _ _ _ h7) [0] [(11,Iz v11),(12,AV.slc 2 0 1 v12.length false)] [] [(2,.grow (List.map (AV.int .u8) v12))] 3 ?_;refine RG [] [none,none,none,none,none,none,none] fun _ _ g r=>?_;obtain ⟨h8,hF⟩:=AaS hF;have h8_:=h8;try simp at h8_
      have F7:=A2 F6 h8;try simp [F7]
      and_intros <;> first | exact GK g | apply r | omega | (simp [maxLen,F7] <;> omega)
      refine hK180 _ _ _ ?_;refine WK [(0,AV.slc 2 0 1 v12.length false),(7,Iz v5),(9,AV.slc 3 0 1 ((v10++([v11] : List Int)).length) false),(10,Iz v8)] [(2,.grow (List.map (AV.int .u8) v12)),(3,Gi (v10++([v11] : List Int)))] 4 (by simp [F7] <;> omega) (by simp [F7]) ?_;refine RG [] [none,none,none] fun _ _ g r=>?_;try simp [F7]
      and_intros <;> first | exact GK g | apply r | omega | (simp [maxLen,F7] <;> omega)
      refine hK174 _ _ _ ?_;refine RN h0 [(0,2),(1,3)] [(0,AV.slc 0 0 1 v12.length false),(7,Iz v5),(9,AV.slc 1 0 1 ((v10++([v11] : List Int)).length) false),(10,Iz (IntKind.wrap .i64 (v8+1)))] [(0,.grow (List.map (AV.int .u8) v12)),(1,Gi (v10++([v11] : List Int)))] 2 (by simp [F7] <;> omega) (by simp [F7]) ?_;exact NX (k':=n1) ((IntKind.wrap .i64 (v8+1),v12,v10++([v11] : List Int))) hF (by simp [F7]) (by simp [F7])
     ·replace hF:=AaR h6 hF;have h6_:=h6;try simp at h6_
      have F8:=A3 F5 h6 h6_;refine CF (by simp [F8] <;> omega) ?_;refine AW.exit ?_;try simp
      refine hK145 _ _ _ ?_;refine SQ [] [none,none,none,none,none] fun _ _ g r=>?_;try simp [F8]
      and_intros <;> first | exact GK g | apply r | omega | (simp [maxLen,F8] <;> omega)
      refine RM h0 [(0,1),(1,0)] [(4,AV.slc 0 0 1 v10.length false),(5,AV.slc 1 0 1 v9.length false),(6,AV.bool true)] [(0,Gi v10),(1,.grow (List.map (AV.int .u8) v9))] 2 (by simp [F8]) (by simp [F8]) ?_;simp only [Option.some.injEq,Prod.mk.injEq] at hF;obtain ⟨e0,e1,e2⟩:=hF;subst e0 e1 e2;refine AW.ret (hQ _ _ _ ?_ (AaC ?_)).1
      ·simp [Try.f104,F8]
      ·simp [F8]
abbrev Aa4  : Aaq := .cells [Iz 0,Iz 0,AV.str (ByteArray.mk #[]),Iz 0,Iz 0,Iz 0,Iz 0,Iz 0,AV.lst true true (List.map (AV.int .i64) ([] : List Int)),AV.lst true true (List.map AaA.av ([] : List AaA)),AV.str (ByteArray.mk #[]),Iz 0,AV.str (ByteArray.mk #[])]
abbrev Abv  : Aaq := .cells [Iz 0,Iz 0,AV.str (ByteArray.mk #[]),Iz 0,Iz 0,Iz 0,Iz 0,Iz 0,AV.lst true true (List.map (AV.int .i64) ([] : List Int)),AV.slc 1 0 3 (([] : List AaA).length) false,AV.str (ByteArray.mk #[]),Iz 0,AV.str (ByteArray.mk #[])]
abbrev AcP  : Aaq := .cells [Iz 0,Iz 0,AV.str (ByteArray.mk #[]),Iz 0,Iz 0,Iz 0,Iz 0,Iz 0,AV.lst false false (List.map (AV.int .i64) ([] : List Int)),Q0 ([] : List AaA),AV.str (ByteArray.mk #[]),Iz 0,AV.str (ByteArray.mk #[])]
theorem AhW (k : Nat) (v0 : (List Int)) (v1 : AaI) (v2 : Int) (hF : AaY k v0=some (v1,v2)) :
 AbK Try.prog 60 [AV.lst false false (List.map (AV.int .u8) v0)] [] (AV.tup [AV.agg [AV.int .i64 v1.Author,AV.int .i64 v1.Number,AV.str v1.Prev,AV.int .i64 v1.Time,AV.int .i64 v1.Kind,AV.int .i64 v1.A,AV.int .i64 v1.B,AV.int .i64 v1.C,AV.lst false false (List.map (AV.int .i64) v1.Lst),Q0 v1.Pins,AV.str v1.Body,AV.int .i64 v1.Seal_Key,AV.str v1.Seal_Digest],AV.int .i64 v2]) []:=by
 unfold AaY at hF;refine EN Try.func60 ?_;intro c0 w0 Q h0 hQ
 refine WK [(0,Lb v0)] [] 0 (by simp) (by simp) ?_;refine SW trivial [] [none,none] [] [(2,AV.ptr 0 0)] [] [(0,Aa4 )] 1 ?_;refine SW trivial [] [none,none,none,none] [] [(4,AV.ptr 1 0)] [] [(1,.cells [Lb v0,AV.bool true])] 2 ?_;refine SW trivial [] [none] [] [(5,AV.ptr 2 0)] [] [(2,Aa4 )] 3 ?_;refine SR [] [none,none,none,none,none,none,none,none,none,none,none,none] fun _ _ g r=>?_;try simp
 and_intros
 try any_goals first | omega | (simp [maxLen] <;> omega)
 obtain ⟨v3,v4,v5,h1,hF⟩:=AbC hF;refine AaT (AbF k _ _ _ _ _ h1) (by simp) [1] [] [1] rfl (.cons (.same (by simp)) .nil) (by simp) (by decide) (by simp) (by simp) (.inl rfl) (by simp) (by simp) ?_;try simp
 and_intros
 try any_goals first | omega | (simp [maxLen] <;> omega)
 obtain ⟨v6,v7,v8,h2,hF⟩:=AbC hF;refine AaT (AbF k _ _ _ _ _ h2) (by simp) [1] [] [1] rfl (.cons (.same (by simp)) .nil) (by simp) (by decide) (by simp) (by simp) (.inl rfl) (by simp) (by simp) ?_;try simp
 and_intros
 try any_goals first | omega | (simp [maxLen] <;> omega)
 obtain ⟨v9,v10,v11,h3,hF⟩:=AbC hF;refine AaT (AcT k _ _ _ _ _ _ h3) (by simp) [1] [] [1] rfl (.cons (.same (by simp)) (.cons (.same (by simp)) .nil)) (by simp) (by decide) (by simp) (by simp) (.inl rfl) (by simp) (by simp) ?_;refine TL trivial g r [] [] [1,2] [(1,.cells [Lb v10,AV.bool v11]),(2,.cells [Iz v3,Iz v6,AV.str v9,Iz 0,Iz 0,Iz 0,Iz 0,Iz 0,AV.lst true true (List.map (AV.int .i64) ([] : List Int)),AV.lst true true (List.map AaA.av ([] : List AaA)),AV.str (ByteArray.mk #[]),Iz 0,AV.str (ByteArray.mk #[])])] 3 ?_;refine SR [] [none,none,none,none,none,none,none,none,none,none,none,none,none,none,none,none,none,none,none,none] fun _ _ g r=>?_;try simp
 and_intros
 try any_goals first | omega | (simp [maxLen] <;> omega)
 obtain ⟨v12,v13,v14,h4,hF⟩:=AbC hF;refine AaT (AbF k _ _ _ _ _ h4) (by simp) [1] [] [1] rfl (.cons (.same (by simp)) .nil) (by simp) (by decide) (by simp) (by simp) (.inl rfl) (by simp) (by simp) ?_;try simp
 and_intros
 try any_goals first | omega | (simp [maxLen] <;> omega)
 obtain ⟨v15,v16,v17,h5,hF⟩:=AbC hF;refine AaT (AbF k _ _ _ _ _ h5) (by simp) [1] [] [1] rfl (.cons (.same (by simp)) .nil) (by simp) (by decide) (by simp) (by simp) (.inl rfl) (by simp) (by simp) ?_;try simp
 and_intros
 try any_goals first | omega | (simp [maxLen] <;> omega)
 obtain ⟨v18,v19,v20,h6,hF⟩:=AbC hF;refine AaT (AbF k _ _ _ _ _ h6) (by simp) [1] [] [1] rfl (.cons (.same (by simp)) .nil) (by simp) (by decide) (by simp) (by simp) (.inl rfl) (by simp) (by simp) ?_;try simp
 and_intros
 try any_goals first | omega | (simp [maxLen] <;> omega)
 obtain ⟨v21,v22,v23,h7,hF⟩:=AbC hF;refine AaT (AbF k _ _ _ _ _ h7) (by simp) [1] [] [1] rfl (.cons (.same (by simp)) .nil) (by simp) (by decide) (by simp) (by simp) (.inl rfl) (by simp) (by simp) ?_;try simp
 and_intros
 try any_goals first | omega | (simp [maxLen] <;> omega)
 obtain ⟨v24,v25,v26,h8,hF⟩:=AbC hF;refine AaT (AbF k _ _ _ _ _ h8) (by simp) [1] [] [1] rfl (.cons (.same (by simp)) .nil) (by simp) (by decide) (by simp) (by simp) (.inl rfl) (by simp) (by simp) ?_;refine TL trivial g r [] [] [1,2] [(1,.cells [Lb v25,AV.bool v26]),(2,.cells [Iz v3,Iz v6,AV.str v9,Iz v12,Iz v15,Iz v18,Iz v21,Iz v24,AV.lst true true (List.map (AV.int .i64) ([] : List Int)),AV.lst true true (List.map AaA.av ([] : List AaA)),AV.str (ByteArray.mk #[]),Iz 0,AV.str (ByteArray.mk #[])])] 3 ?_;obtain ⟨v27,v28,v29,h9,hF⟩:=AbC hF;refine CL trivial [] [none,none,none,none,none,none,none,none,none,none,none,none] (Age k _ _ _ _ _ h9) [] [(6,AV.slc 3 0 1 v27.length false),(7,AV.slc 4 0 1 v28.length false),(8,AV.bool v29)] [] [(3,Gi v27),(4,.grow (List.map (AV.int .u8) v28))] 5 ?_;refine AW.frz 3 (o:=Gi v27) (by simp) rfl [(6,Lz v27)] [] ⟨(.l (by simp) (by simp) (by simp) (by simp)),trivial⟩ trivial ?_;refine AW.frz 4 (o := .grow (List.map (AV.int .u8) v28)) (by simp) rfl [(7,Lb v28)] [] ⟨(.l (by simp) (by simp) (by simp) (by simp)),trivial⟩ trivial ?_;refine WK [(0,Lb v0),(2,AV.ptr 0 0),(4,AV.ptr 1 0),(5,AV.ptr 2 0),(6,Lz v27),(7,Lb v28),(8,AV.bool v29)] [(0,Aa4 ),(1,.cells [Lb v25,AV.bool v26]),(2,.cells [Iz v3,Iz v6,AV.str v9,Iz v12,Iz v15,Iz v18,Iz v21,Iz v24,AV.lst true true (List.map (AV.int .i64) ([] : List Int)),AV.lst true true (List.map AaA.av ([] : List AaA)),AV.str (ByteArray.mk #[]),Iz 0,AV.str (ByteArray.mk #[])])] 5 (by simp) (by simp) ?_;refine AW.midF (α:=Bool) (fun v30=>AaY.J1 k v0 v3 v6 v9 v12 v15 v18 v21 v24 v27 v28 v30=some (v1,v2)) (fun v30=>[(0,Lb v0),(2,AV.ptr 0 0),(4,AV.ptr 1 0),(5,AV.ptr 2 0)]) (fun v30=>[(0,Aa4 ),(1,.cells [Lb v28,AV.bool v30]),(2,.cells [Iz v3,Iz v6,AV.str v9,Iz v12,Iz v15,Iz v18,Iz v21,Iz v24,Lz v27,AV.lst true true (List.map AaA.av ([] : List AaA)),AV.str (ByteArray.mk #[]),Iz 0,AV.str (ByteArray.mk #[])])]) 3 (fun K372 hK372=>?_) ?_
 ·refine RG [] [none,none,none,none,none,none,none,none,none,some (57,true),none,none,none,none,none,none,none,none,none] fun _ _ g r=>?_;by_cases h29 : v26=true
  ·replace hF:=AaQ h29 hF;have h29_:=h29;try simp at h29_
   try simp [h29,h29_]
   and_intros <;> first | exact GK g | apply r | omega | (simp [h29,h29_,maxLen] <;> omega)
   refine hK372 _ _ _ ?_;refine RN h0 [(0,0),(1,1),(2,2)] [(0,Lb v0),(2,AV.ptr 0 0),(4,AV.ptr 1 0),(5,AV.ptr 2 0)] [(0,Aa4 ),(1,.cells [Lb v28,AV.bool v29]),(2,.cells [Iz v3,Iz v6,AV.str v9,Iz v12,Iz v15,Iz v18,Iz v21,Iz v24,Lz v27,AV.lst true true (List.map AaA.av ([] : List AaA)),AV.str (ByteArray.mk #[]),Iz 0,AV.str (ByteArray.mk #[])])] 3 (by simp [h29,h29_]) (by simp [h29,h29_]) ?_;exact JN (v29) hF (by simp [h29,h29_]) (by simp [h29,h29_])
  ·replace hF:=AaR h29 hF;have h29_:=h29;try simp at h29_
   try simp [h29,h29_]
   and_intros <;> first | exact GK g | apply r | omega | (simp [h29,h29_,maxLen] <;> omega)
   refine hK372 _ _ _ ?_;refine RN h0 [(0,0),(1,1),(2,2)] [(0,Lb v0),(2,AV.ptr 0 0),(4,AV.ptr 1 0),(5,AV.ptr 2 0)] [(0,Aa4 ),(1,.cells [Lb v28,AV.bool false]),(2,.cells [Iz v3,Iz v6,AV.str v9,Iz v12,Iz v15,Iz v18,Iz v21,Iz v24,Lz v27,AV.lst true true (List.map AaA.av ([] : List AaA)),AV.str (ByteArray.mk #[]),Iz 0,AV.str (ByteArray.mk #[])])] 3 (by simp [h29,h29_]) (by simp [h29,h29_]) ?_;exact JN (false) hF (by simp [h29,h29_]) (by simp [h29,h29_])
 ·rintro v30 hF
  try dsimp only at hF
  unfold AaY.J1 at hF;refine AW.midF (α:=((List Int)×Bool×(List AaA))) (fun (v31,v32,v33)=>AaY.J2 k v0 v3 v6 v9 v12 v15 v18 v21 v24 v27 v31 v32 v33=some (v1,v2)) (fun (v31,v32,v33)=>[(0,Lb v0),(2,AV.ptr 0 0),(4,AV.ptr 2 0),(5,AV.ptr 3 0)]) (fun (v31,v32,v33)=>[(0,Abv ),(1,.grow (AaW (List.map AaA.av ([] : List AaA)))),(2,.cells [Lb v31,AV.bool v32]),(3,.cells [Iz v3,Iz v6,AV.str v9,Iz v12,Iz v15,Iz v18,Iz v21,Iz v24,Lz v27,AV.slc 4 0 3 v33.length false,AV.str (ByteArray.mk #[]),Iz 0,AV.str (ByteArray.mk #[])]),(4,.grow (AaW (List.map AaA.av v33)))]) 5 (fun K293 hK293=>?_) ?_
  ·refine SR [] [none,none,none] fun _ _ g r=>?_;try simp
   and_intros
   try any_goals first | omega | (simp [maxLen] <;> omega)
   obtain ⟨v47,v48,v49,h21,hF⟩:=AbC hF;refine AaT (AbF k _ _ _ _ _ h21) (by simp) [1] [] [1] rfl (.cons (.same (by simp)) .nil) (by simp) (by decide) (by simp) (by simp) (.inl rfl) (by simp) (by simp) ?_;refine TL trivial g r [] [(9,Iz v47)] [1] [(1,.cells [Lb v48,AV.bool v49])] 3 ?_;refine AW.block ?_;refine AW.ownC 0 9 3 true (cs:=[Iz 0,Iz 0,AV.str (ByteArray.mk #[]),Iz 0,Iz 0,Iz 0,Iz 0,Iz 0,AV.lst true true (List.map (AV.int .i64) ([] : List Int)),AV.lst true true (List.map AaA.av ([] : List AaA)),AV.str (ByteArray.mk #[]),Iz 0,AV.str (ByteArray.mk #[])]) (by simp) (by simp) ?_;refine AW.ownC 2 9 3 true (cs:=[Iz v3,Iz v6,AV.str v9,Iz v12,Iz v15,Iz v18,Iz v21,Iz v24,Lz v27,AV.lst true true (List.map AaA.av ([] : List AaA)),AV.str (ByteArray.mk #[]),Iz 0,AV.str (ByteArray.mk #[])]) (by simp) (by simp) ?_;refine RM h0 [(0,0),(1,3),(2,1),(3,2),(4,4)] [(0,Lb v0),(2,AV.ptr 0 0),(4,AV.ptr 2 0),(5,AV.ptr 3 0),(9,Iz v47)] [(0,Abv ),(1,.grow (AaW (List.map AaA.av ([] : List AaA)))),(2,.cells [Lb v48,AV.bool v49]),(3,.cells [Iz v3,Iz v6,AV.str v9,Iz v12,Iz v15,Iz v18,Iz v21,Iz v24,Lz v27,AV.slc 4 0 3 (([] : List AaA).length) false,AV.str (ByteArray.mk #[]),Iz 0,AV.str (ByteArray.mk #[])]),(4,.grow (AaW (List.map AaA.av ([] : List AaA))))] 5 (by simp) (by simp) ?_;refine AW.loopF (α:=(Int×(List Int)×Bool×(List AaA))) (fun n (v50,v51,v52,v53)=>AaY.L3 k v0 v3 v6 v9 v12 v15 v18 v21 v24 v27 n v50 v51 v52 v53=some (v1,v2)) (fun (v50,v51,v52,v53)=>[(0,Lb v0),(2,AV.ptr 0 0),(4,AV.ptr 2 0),(5,AV.ptr 3 0),(9,Iz v50)]) (fun (v50,v51,v52,v53)=>[(0,Abv ),(1,.grow (AaW (List.map AaA.av ([] : List AaA)))),(2,.cells [Lb v51,AV.bool v52]),(3,.cells [Iz v3,Iz v6,AV.str v9,Iz v12,Iz v15,Iz v18,Iz v21,Iz v24,Lz v27,AV.slc 4 0 3 v53.length false,AV.str (ByteArray.mk #[]),Iz 0,AV.str (ByteArray.mk #[])]),(4,.grow (AaW (List.map AaA.av v53)))]) 5 k ((v47,v48,v49,([] : List AaA))) hF (by simp) (by simp) (by simp) ?_;rintro (_|n3) ⟨v50,v51,v52,v53⟩ hF K352 hK352
   ·try dsimp only at hF
    rw [AaY.L3] at hF; cases hF
   try dsimp only at hF
   rw [AaY.L3] at hF;refine AW.seq fun K354 hK354=>?_;refine SQ [] [none,none,none,some (69,true),some (69,true),some (69,true),some (69,true),none] fun _ _ g r=>?_;by_cases h22 : 0<v50
   ·replace hF:=AaQ h22 hF;have h22_:=h22;try simp at h22_
    try simp [h22,h22_]
    and_intros <;> first | exact GK g | apply r | omega | (simp [h22,h22_,maxLen] <;> omega)
    refine WK [(0,Lb v0),(2,AV.ptr 0 0),(4,AV.ptr 2 0),(5,AV.ptr 3 0),(9,Iz v50),(74,AV.bool v52)] [(0,Abv ),(1,.grow (AaW (List.map AaA.av ([] : List AaA)))),(2,.cells [Lb v51,AV.bool v52]),(3,.cells [Iz v3,Iz v6,AV.str v9,Iz v12,Iz v15,Iz v18,Iz v21,Iz v24,Lz v27,AV.slc 4 0 3 v53.length false,AV.str (ByteArray.mk #[]),Iz 0,AV.str (ByteArray.mk #[])]),(4,.grow (AaW (List.map AaA.av v53)))] 5 (by simp [h22,h22_]) (by simp [h22,h22_]) ?_;by_cases h23 : v52=true
    ·replace hF:=AaQ h23 hF;have h23_:=h23;try simp at h23_
     have F1:=A4 h22 h22_ h23 h23_;refine CT (by simp [F1] <;> omega) ?_;refine AW.skip ?_;refine hK354 _ _ _ ?_;refine AW.seq fun K363 hK363=>?_;refine AW.block ?_;refine AW.seq fun K366 hK366=>?_;refine SW F1 [] [none,none,none,none] [74] [(80,AV.bool (decide (64≤(v53.length : Int))))] [] [] 5 ?_;by_cases h24 : 64≤(v53.length : Int)
     ·replace hF:=AaQ h24 hF;have h24_:=h24;try simp at h24_
      have F2:=A3 F1 h24 h24_;refine CT (by simp [F2] <;> omega) ?_;refine SW F2 [] [none,none,none] [0,4,5,9,80] [(3,Iz 1)] [0,1,2,3,4] [(0,Aa4 )] 5 ?_;refine AW.flg [] [(0,AcP )] trivial ⟨⟨(Aa4 ),by simp [F2],(.mk (.cons (.same _) (.cons (.same _) (.cons (.same _) (.cons (.same _) (.cons (.same _) (.cons (.same _) (.cons (.same _) (.cons (.same _) (.cons (.lst (by simp)) (.cons (.lst (by simp)) (.cons (.same _) (.cons (.same _) (.cons (.same _) .nil))))))))))))))⟩,trivial⟩ (by simp) ?_;simp only [Option.some.injEq,Prod.mk.injEq] at hF;obtain ⟨e0,e1⟩:=hF;subst e0 e1;refine AW.ret (hQ _ _ _ ?_ (AaC ?_)).1
      ·simp [Try.f60,F2]
      ·simp [F2]
     ·replace hF:=AaR h24 hF;have h24_:=h24;try simp at h24_
      have F3:=A3 F1 h24 h24_;refine CF (by simp [F3] <;> omega) ?_;refine AW.skip ?_;refine hK366 _ _ _ ?_;refine SR [] [none,none,none,none,none,none,none,none,none] fun _ _ g r=>?_;try simp [F3]
      and_intros
      try any_goals first | omega | (simp [maxLen,F3] <;> omega)
      obtain ⟨v54,v55,v56,h25,hF⟩:=AbC hF;refine AaT (AbF k _ _ _ _ _ h25) (by simp) [2] [] [2] rfl (.cons (.same (by simp [F3])) .nil) (by simp [F3]) (by decide) (by simp) (by simp) (.inl rfl) (by simp) (by simp) ?_;try simp [F3]
      and_intros
      try any_goals first | omega | (simp [maxLen,F3] <;> omega)
      obtain ⟨v57,v58,v59,h26,hF⟩:=AbC hF;refine AaT (AbF k _ _ _ _ _ h26) (by simp) [2] [] [2] rfl (.cons (.same (by simp [F3])) .nil) (by simp [F3]) (by decide) (by simp) (by simp) (.inl rfl) (by simp) (by simp) ?_;try simp [F3]
      and_intros
      try any_goals first | omega | (simp [maxLen,F3] <;> omega)
      obtain ⟨v60,v61,v62,h27,hF⟩:=AbC hF;refine AaT (AcT k _ _ _ _ _ _ h27) (by simp) [2] [] [2] rfl (.cons (.same (by simp [F3])) (.cons (.same (by simp [F3])) .nil)) (by simp [F3]) (by decide) (by simp) (by simp) (.inl rfl) (by simp) (by simp) ?_;refine TL F3 g r [80] [(10,AV.ptr 5 0)] [2] [(2,.cells [Lb v61,AV.bool v62]),(5,.cells [Iz v54,Iz v57,AV.str v60])] 6 ?_;refine RG [] [none,none,none,none,none,none,none] fun _ _ g r=>?_;obtain ⟨h28,hF⟩:=AaS hF;have h28_:=h28;try simp at h28_
      have F4:=A2 F3 h28;try simp [F4]
      and_intros <;> first | exact GK g | apply r | omega | (simp [maxLen,F4] <;> omega)
      refine hK363 _ _ _ ?_;refine WK [(0,Lb v0),(2,AV.ptr 0 0),(4,AV.ptr 2 0),(5,AV.ptr 3 0),(9,Iz v50)] [(0,Abv ),(1,.grow (AaW (List.map AaA.av ([] : List AaA)))),(2,.cells [Lb v61,AV.bool v62]),(3,.cells [Iz v3,Iz v6,AV.str v9,Iz v12,Iz v15,Iz v18,Iz v21,Iz v24,Lz v27,AV.slc 6 0 3 ((v53++([(AaA.mk v54 v57 v60)] : List AaA)).length) false,AV.str (ByteArray.mk #[]),Iz 0,AV.str (ByteArray.mk #[])]),(6,.grow (AaW (List.map AaA.av (v53++([(AaA.mk v54 v57 v60)] : List AaA)))))] 7 (by simp [F4]) (by simp [F4] <;> omega) ?_;refine RG [] [none,none,none] fun _ _ g r=>?_;try simp [F4]
      and_intros <;> first | exact GK g | apply r | omega | (simp [maxLen,F4] <;> omega)
      refine hK352 _ _ _ ?_;refine RN h0 [(0,0),(1,1),(2,2),(3,3),(4,6)] [(0,Lb v0),(2,AV.ptr 0 0),(4,AV.ptr 2 0),(5,AV.ptr 3 0),(9,Iz (IntKind.wrap .i64 (v50-1)))] [(0,Abv ),(1,.grow (AaW (List.map AaA.av ([] : List AaA)))),(2,.cells [Lb v61,AV.bool v62]),(3,.cells [Iz v3,Iz v6,AV.str v9,Iz v12,Iz v15,Iz v18,Iz v21,Iz v24,Lz v27,AV.slc 4 0 3 ((v53++([(AaA.mk v54 v57 v60)] : List AaA)).length) false,AV.str (ByteArray.mk #[]),Iz 0,AV.str (ByteArray.mk #[])]),(4,.grow (AaW (List.map AaA.av (v53++([(AaA.mk v54 v57 v60)] : List AaA)))))] 5 (by simp [F4]) (by simp [F4] <;> omega) ?_;exact NX (k':=n3) ((IntKind.wrap .i64 (v50-1),v61,v62,v53++([(AaA.mk v54 v57 v60)] : List AaA))) hF (by simp [F4]) (by simp [F4])
    ·replace hF:=AaR h23 hF;have h23_:=h23;try simp at h23_
     have F5:=A4 h22 h22_ h23 h23_;refine CF (by simp [F5] <;> omega) ?_;refine AW.exit ?_;try simp
     refine hK293 _ _ _ ?_;exact JN ((v51,v52,v53)) hF (by simp [F5]) (by simp [F5])
   ·replace hF:=AaR h22 hF;have h22_:=h22;try simp at h22_
    try simp [h22,h22_]
    and_intros <;> first | exact GK g | apply r | omega | (simp [h22,h22_,maxLen] <;> omega)
    refine WK [(0,Lb v0),(2,AV.ptr 0 0),(4,AV.ptr 2 0),(5,AV.ptr 3 0),(9,Iz v50),(74,AV.bool false)] [(0,Abv ),(1,.grow (AaW (List.map AaA.av ([] : List AaA)))),(2,.cells [Lb v51,AV.bool v52]),(3,.cells [Iz v3,Iz v6,AV.str v9,Iz v12,Iz v15,Iz v18,Iz v21,Iz v24,Lz v27,AV.slc 4 0 3 v53.length false,AV.str (ByteArray.mk #[]),Iz 0,AV.str (ByteArray.mk #[])]),(4,.grow (AaW (List.map AaA.av v53)))] 5 (by simp [h22,h22_]) (by simp [h22,h22_]) ?_;refine CF (by simp [h22,h22_]) ?_;refine AW.exit ?_;try simp
    refine hK293 _ _ _ ?_;exact JN ((v51,v52,v53)) hF (by simp [h22,h22_]) (by simp [h22,h22_])
  ·rintro ⟨v31,v32,v33⟩ hF
   try dsimp only at hF
   unfold AaY.J2 at hF;refine SR [] [none,none,none,none] fun _ _ g r=>?_;try simp
   and_intros
   try any_goals first | omega | (simp [maxLen] <;> omega)
   obtain ⟨v34,v35,v36,h10,hF⟩:=AbC hF;refine AaT (AcT k _ _ _ _ _ _ h10) (by simp) [2] [] [2] rfl (.cons (.same (by simp)) (.cons (.same (by simp)) .nil)) (by simp) (by decide) (by simp) (by simp) (.inl rfl) (by simp) (by simp) ?_;refine TL trivial g r [] [] [2,3] [(2,.cells [Lb v35,AV.bool v36]),(3,.cells [Iz v3,Iz v6,AV.str v9,Iz v12,Iz v15,Iz v18,Iz v21,Iz v24,Lz v27,AV.slc 4 0 3 v33.length false,AV.str v34,Iz 0,AV.str (ByteArray.mk #[])])] 5 ?_;refine SR [] [none,none,none,none,none,none,none] fun _ _ g r=>?_;try simp
   and_intros
   try any_goals first | omega | (simp [maxLen] <;> omega)
   obtain ⟨v37,v38,v39,h11,hF⟩:=AbC hF;refine AaT (AbF k _ _ _ _ _ h11) (by simp) [2] [] [2] rfl (.cons (.same (by simp)) .nil) (by simp) (by decide) (by simp) (by simp) (.inl rfl) (by simp) (by simp) ?_;try simp
   and_intros
   try any_goals first | omega | (simp [maxLen] <;> omega)
   obtain ⟨v40,v41,v42,h12,hF⟩:=AbC hF;refine AaT (AcT k _ _ _ _ _ _ h12) (by simp) [2] [] [2] rfl (.cons (.same (by simp)) (.cons (.same (by simp)) .nil)) (by simp) (by decide) (by simp) (by simp) (.inl rfl) (by simp) (by simp) ?_;refine TL trivial g r [] [] [2,3] [(2,.cells [Lb v41,AV.bool v42]),(3,.cells [Iz v3,Iz v6,AV.str v9,Iz v12,Iz v15,Iz v18,Iz v21,Iz v24,Lz v27,AV.slc 4 0 3 v33.length false,AV.str v34,Iz v37,AV.str v40])] 5 ?_;refine AW.seq fun K279 hK279=>?_;refine SR [] [none,none,none,none,none,none,some (109,false),some (109,false),some (109,false),some (109,false),some (109,false),some (109,false),none,none,some (117,false),some (117,false),some (117,false),none,none,some (122,false),some (122,false),some (122,false),none] fun _ _ g r=>?_;by_cases h13 : (!v42)=true
   ·replace hF:=AaQ h13 hF;have h13_:=h13;try simp at h13_
    refine TL (A2 h13 h13_) g r [4] [(126,AV.bool true)] [2] [] 5 ?_;refine CT (by simp [h13,h13_]) ?_;refine SW (A2 h13 h13_) [] [none,none,none] [0,5,126] [(3,Iz 1)] [0,1,3,4] [(0,Aa4 )] 5 ?_;refine AW.flg [] [(0,AcP )] trivial ⟨⟨(Aa4 ),by simp [h13,h13_],(.mk (.cons (.same _) (.cons (.same _) (.cons (.same _) (.cons (.same _) (.cons (.same _) (.cons (.same _) (.cons (.same _) (.cons (.same _) (.cons (.lst (by simp)) (.cons (.lst (by simp)) (.cons (.same _) (.cons (.same _) (.cons (.same _) .nil))))))))))))))⟩,trivial⟩ (by simp) ?_;simp only [Option.some.injEq,Prod.mk.injEq] at hF;obtain ⟨e0,e1⟩:=hF;subst e0 e1;refine AW.ret (hQ _ _ _ ?_ (AaC ?_)).1
    ·simp [Try.f60,h13,h13_]
    ·simp [h13,h13_]
   ·replace hF:=AaR h13 hF;have h13_:=h13;try simp at h13_
    by_cases h14 : 0<(v41.length : Int)
    ·replace hF:=AaQ h14 hF;have h14_:=h14;try simp at h14_
     have F6:=A4 h13 h13_ h14 h14_;refine TL F6 g r [4] [(126,AV.bool true)] [2] [] 5 ?_;refine CT (by simp [F6]) ?_;refine SW F6 [] [none,none,none] [0,5,126] [(3,Iz 1)] [0,1,3,4] [(0,Aa4 )] 5 ?_;refine AW.flg [] [(0,AcP )] trivial ⟨⟨(Aa4 ),by simp [F6],(.mk (.cons (.same _) (.cons (.same _) (.cons (.same _) (.cons (.same _) (.cons (.same _) (.cons (.same _) (.cons (.same _) (.cons (.same _) (.cons (.lst (by simp)) (.cons (.lst (by simp)) (.cons (.same _) (.cons (.same _) (.cons (.same _) .nil))))))))))))))⟩,trivial⟩ (by simp) ?_;simp only [Option.some.injEq,Prod.mk.injEq] at hF;obtain ⟨e0,e1⟩:=hF;subst e0 e1;refine AW.ret (hQ _ _ _ ?_ (AaC ?_)).1
     ·simp [Try.f60,F6]
     ·simp [F6]
    ·replace hF:=AaR h14 hF;have h14_:=h14;try simp at h14_
     have F7:=A4 h13 h13_ h14 h14_;try simp [F7]
     and_intros
     try any_goals first | omega | (simp [maxLen,F7] <;> omega)
     obtain ⟨v43,h15,hF⟩:=AaF hF;refine AaT (Aed k _ _ _ _ _ _ _ _ _ _ _ _ _ _ h15) (by simp) [] [4] [] rfl (.cons (.agg (.cons (.same (by simp [F7])) (.cons (.same (by simp [F7])) (.cons (.same (by simp [F7])) (.cons (.same (by simp [F7])) (.cons (.same (by simp [F7])) (.cons (.same (by simp [F7])) (.cons (.same (by simp [F7])) (.cons (.same (by simp [F7])) (.cons (.same (by simp [F7])) (.cons (Coe.l (o := .grow (AaW (List.map AaA.av v33))) (by simp [F7]) rfl (by simp [F7]) (by simp [Acd]) (by simp [F7]) (by simp [F7])) (.cons (.same (by simp [F7])) (.cons (.same (by simp [F7])) (.cons (.same (by simp [F7])) .nil)))))))))))))) .nil) (by simp [F7]) (by decide) (by simp) (by simp) (.inr ⟨by simp,by simp⟩) (by simp) (by simp) ?_;by_cases h16 : v43≠0
     ·replace hF:=AaQ h16 hF;have h16_:=Abm h16;have h16__:=Abo h16;have F8:=A4 F7 h16 h16_ h16__;refine TL F8 g r [4] [(126,AV.bool true)] [2] [] 5 ?_;refine CT (by simp [F8]) ?_;refine SW F8 [] [none,none,none] [0,5,126] [(3,Iz 1)] [0,1,3,4] [(0,Aa4 )] 5 ?_;refine AW.flg [] [(0,AcP )] trivial ⟨⟨(Aa4 ),by simp [F8],(.mk (.cons (.same _) (.cons (.same _) (.cons (.same _) (.cons (.same _) (.cons (.same _) (.cons (.same _) (.cons (.same _) (.cons (.same _) (.cons (.lst (by simp)) (.cons (.lst (by simp)) (.cons (.same _) (.cons (.same _) (.cons (.same _) .nil))))))))))))))⟩,trivial⟩ (by simp) ?_;simp only [Option.some.injEq,Prod.mk.injEq] at hF;obtain ⟨e0,e1⟩:=hF;subst e0 e1;refine AW.ret (hQ _ _ _ ?_ (AaC ?_)).1
      ·simp [Try.f60,F8]
      ·simp [F8]
     ·replace hF:=AaR h16 hF;have h16q : v43=0:=Classical.not_not.1 h16;have h16_:=Abr h16q;have h16__:=Abp h16q;have F9:=A4 F7 h16_ h16__ h16q;try simp [F9]
      and_intros
      try any_goals first | omega | (simp [maxLen,F9] <;> omega)
      obtain ⟨v44,h17,hF⟩:=AaF hF;refine AaT (AeG k _ _ _ _ _ _ _ _ _ _ _ _ _ _ h17) (by simp) [] [4] [] rfl (.cons (.agg (.cons (.same (by simp [F9])) (.cons (.same (by simp [F9])) (.cons (.same (by simp [F9])) (.cons (.same (by simp [F9])) (.cons (.same (by simp [F9])) (.cons (.same (by simp [F9])) (.cons (.same (by simp [F9])) (.cons (.same (by simp [F9])) (.cons (.same (by simp [F9])) (.cons (Coe.l (o := .grow (AaW (List.map AaA.av v33))) (by simp [F9]) rfl (by simp [F9]) (by simp [Acd]) (by simp [F9]) (by simp [F9])) (.cons (.same (by simp [F9])) (.cons (.same (by simp [F9])) (.cons (.same (by simp [F9])) .nil)))))))))))))) .nil) (by simp [F9]) (by decide) (by simp) (by simp) (.inr ⟨by simp,by simp⟩) (by simp) (by simp) ?_;refine TL F9 g r [4] [(126,AV.bool (!v44))] [2] [] 5 ?_;by_cases h18 : (!v44)=true
      ·replace hF:=AaQ h18 hF;have h18_:=h18;try simp at h18_
       have F10:=A3 F9 h18 h18_;refine CT (by simp [F10] <;> omega) ?_;refine SW F10 [] [none,none,none] [0,5,126] [(3,Iz 1)] [0,1,3,4] [(0,Aa4 )] 5 ?_;refine AW.flg [] [(0,AcP )] trivial ⟨⟨(Aa4 ),by simp [F10],(.mk (.cons (.same _) (.cons (.same _) (.cons (.same _) (.cons (.same _) (.cons (.same _) (.cons (.same _) (.cons (.same _) (.cons (.same _) (.cons (.lst (by simp)) (.cons (.lst (by simp)) (.cons (.same _) (.cons (.same _) (.cons (.same _) .nil))))))))))))))⟩,trivial⟩ (by simp) ?_;simp only [Option.some.injEq,Prod.mk.injEq] at hF;obtain ⟨e0,e1⟩:=hF;subst e0 e1;refine AW.ret (hQ _ _ _ ?_ (AaC ?_)).1
       ·simp [Try.f60,F10]
       ·simp [F10]
      ·replace hF:=AaR h18 hF;have h18_:=h18;try simp at h18_
       have F11:=A3 F9 h18 h18_;refine CF (by simp [F11] <;> omega) ?_;refine AW.skip ?_;refine hK279 _ _ _ ?_;refine AW.seq fun K288 hK288=>?_;refine SR [] [none,none,none,none,none,none,none] fun _ _ g r=>?_;try simp [F11]
       and_intros
       try any_goals first | omega | (simp [maxLen,F11] <;> omega)
       obtain ⟨v45,v46,h19,hF⟩:=AbR hF;refine AaT (AfU k _ _ _ _ _ _ _ _ _ _ _ _ _ _ _ h19) (by simp) [] [4] [] rfl (.cons (.agg (.cons (.same (by simp [F11])) (.cons (.same (by simp [F11])) (.cons (.same (by simp [F11])) (.cons (.same (by simp [F11])) (.cons (.same (by simp [F11])) (.cons (.same (by simp [F11])) (.cons (.same (by simp [F11])) (.cons (.same (by simp [F11])) (.cons (.same (by simp [F11])) (.cons (Coe.l (o := .grow (AaW (List.map AaA.av v33))) (by simp [F11]) rfl (by simp [F11]) (by simp [Acd]) (by simp [F11]) (by simp [F11])) (.cons (.same (by simp [F11])) (.cons (.same (by simp [F11])) (.cons (.same (by simp [F11])) .nil)))))))))))))) .nil) (by simp [F11]) (by decide) (by simp) (by simp) (.inr ⟨by simp,by simp⟩) (by simp) (by simp) ?_;refine TL F11 g r [126] [(11,AV.slc 5 0 1 v45.length false)] [] [(5,.grow (List.map (AV.int .u8) v45))] 6 ?_;refine AW.frz 5 (o := .grow (List.map (AV.int .u8) v45)) (by simp [F11]) rfl [(11,Lb v45)] [] ⟨(.l (by simp) (by simp) (by simp) (by simp)),trivial⟩ trivial ?_;refine WK [(0,Lb v0),(2,AV.ptr 0 0),(5,AV.ptr 3 0),(11,Lb v45)] [(0,Abv ),(1,.grow (AaW (List.map AaA.av ([] : List AaA)))),(3,.cells [Iz v3,Iz v6,AV.str v9,Iz v12,Iz v15,Iz v18,Iz v21,Iz v24,Lz v27,AV.slc 4 0 3 v33.length false,AV.str v34,Iz v37,AV.str v40]),(4,.grow (AaW (List.map AaA.av v33)))] 6 (by simp [F11]) (by simp [F11]) ?_;refine SW F11 [] [none,none,none,none,none] [0,11] [(137,AV.bool (!AbZ (ofI v45) (ofI v0)))] [] [] 6 ?_;by_cases h20 : (!AbZ (ofI v45) (ofI v0))=true
       ·replace hF:=AaQ h20 hF;have h20_:=h20;try simp at h20_
        have F12:=A3 F11 h20 h20_;refine CT (by simp [F12] <;> omega) ?_;refine SW F12 [] [none,none,none] [5,137] [(3,Iz 1)] [0,1,3,4] [(0,Aa4 )] 6 ?_;refine AW.flg [] [(0,AcP )] trivial ⟨⟨(Aa4 ),by simp [F12],(.mk (.cons (.same _) (.cons (.same _) (.cons (.same _) (.cons (.same _) (.cons (.same _) (.cons (.same _) (.cons (.same _) (.cons (.same _) (.cons (.lst (by simp)) (.cons (.lst (by simp)) (.cons (.same _) (.cons (.same _) (.cons (.same _) .nil))))))))))))))⟩,trivial⟩ (by simp) ?_;simp only [Option.some.injEq,Prod.mk.injEq] at hF;obtain ⟨e0,e1⟩:=hF;subst e0 e1;refine AW.ret (hQ _ _ _ ?_ (AaC ?_)).1
        ·simp [Try.f60,F12]
        ·simp [F12]
       ·replace hF:=AaR h20 hF;have h20_:=h20;try simp at h20_
        have F13:=A3 F11 h20 h20_;refine CF (by simp [F13] <;> omega) ?_;refine AW.skip ?_;refine hK288 _ _ _ ?_;refine SW F13 [] [none,none,none] [5,137] [(3,Iz 0)] [0,1,3] [(0,.cells [Iz v3,Iz v6,AV.str v9,Iz v12,Iz v15,Iz v18,Iz v21,Iz v24,Lz v27,AV.slc 4 0 3 v33.length false,AV.str v34,Iz v37,AV.str v40])] 6 ?_;refine WK [(2,AV.ptr 0 0),(3,Iz 0)] [(0,.cells [Iz v3,Iz v6,AV.str v9,Iz v12,Iz v15,Iz v18,Iz v21,Iz v24,Lz v27,AV.slc 4 0 3 v33.length false,AV.str v34,Iz v37,AV.str v40]),(4,.grow (AaW (List.map AaA.av v33)))] 6 (by simp [F13]) (by simp [F13]) ?_;refine AW.frz 4 (o := .grow (AaW (List.map AaA.av v33))) (by simp [F13]) rfl [] [(0,.cells [Iz v3,Iz v6,AV.str v9,Iz v12,Iz v15,Iz v18,Iz v21,Iz v24,Lz v27,Q0 v33,AV.str v34,Iz v37,AV.str v40])] trivial ⟨⟨by simp,Aaq.cells [Iz v3,Iz v6,AV.str v9,Iz v12,Iz v15,Iz v18,Iz v21,Iz v24,Lz v27,AV.slc 4 0 3 v33.length false,AV.str v34,Iz v37,AV.str v40],by simp [F13],(.mk (.cons (.same _) (.cons (.same _) (.cons (.same _) (.cons (.same _) (.cons (.same _) (.cons (.same _) (.cons (.same _) (.cons (.same _) (.cons (.same _) (.cons (.l (by simp) (by simp) (by simp) (by simp)) (.cons (.same _) (.cons (.same _) (.cons (.same _) .nil))))))))))))))⟩,trivial⟩ ?_;simp only [Option.some.injEq,Prod.mk.injEq] at hF;obtain ⟨e0,e1⟩:=hF;subst e0 e1;refine AW.ret (hQ _ _ _ ?_ (AaC ?_)).1
        ·simp [Try.f60,F13]
        ·simp [F13]
end Go.TF
set_option linter.unusedVariables false
set_option linter.unusedSimpArgs false
set_option maxRecDepth 100000
set_option maxHeartbeats 4000000
namespace Go.TF
open Go Go.Abs Go.Proofs Go.Proofs.YtomgdcnbceiggaaSrT
theorem Aip (k : Nat) (v0 : (List Int)) (v1 : Bool) (hF : AeW k v0=some v1) :
 AbK Try.prog 22 [AV.lst false false (List.map (AV.int .u8) v0)] [] (AV.bool v1) []:=by
 unfold AeW at hF;refine EN Try.func22 ?_;intro c0 w0 Q h0 hQ
 refine WK [(0,Lb v0)] [] 0 (by simp) (by simp) ?_;refine SW trivial [] [none] [] [] [] [] 0 ?_;obtain ⟨v2,v3,h1,hF⟩:=AbR hF;refine CL trivial [] [none,none,none,none,none,none,none,none] (Ad8 k _ _ _ h1) [] [(3,AV.ptr 0 0),(4,Iz v3)] [] [(0,.cells [Iz v2.Author,Iz v2.Number,AV.str v2.Prev,Iz v2.Time,Iz v2.Kind,Iz v2.A,Iz v2.B,Iz v2.C,AV.lst false false (List.map (AV.int .i64) v2.Lst),Q0 v2.Pins,AV.str v2.Body,Iz v2.Seal_Key,AV.str v2.Seal_Digest])] 1 ?_;obtain ⟨v4,v5,h2,hF⟩:=AbR hF;refine CL trivial [] [none,none,none,none,none,none,none,none] (AhW k _ _ _ h2) [0] [(5,AV.ptr 1 0),(6,Iz v5)] [] [(1,.cells [Iz v4.Author,Iz v4.Number,AV.str v4.Prev,Iz v4.Time,Iz v4.Kind,Iz v4.A,Iz v4.B,Iz v4.C,AV.lst false false (List.map (AV.int .i64) v4.Lst),Q0 v4.Pins,AV.str v4.Body,Iz v4.Seal_Key,AV.str v4.Seal_Digest])] 2 ?_;refine SR [] [none,none,none,none,some (20,true),some (20,true),some (20,true),none,none] fun _ _ g r=>?_;by_cases h3 : v3=v5
 ·replace hF:=AaQ h3 hF;have h3q : v3=v5:=h3;have h3_:=Abr h3q;have h3__:=Abp h3q;try simp [h3_,h3__]
  and_intros
  try any_goals first | omega | (simp [h3_,h3__,maxLen] <;> omega)
  obtain ⟨v6,h4,hF⟩:=AaF hF;refine AC (Ae1 k _ _ _ _ _ _ _ _ _ _ _ _ _ _ _ _ _ _ _ _ _ _ _ _ _ _ _ h4) (.cons (.same (by simp [h3_,h3__])) (.cons (.same (by simp [h3_,h3__])) .nil)) ?_;refine TL (A2 h3_ h3__) g r [3,4,5,6] [(2,AV.bool v6)] [0,1] [] 2 ?_;simp only [Option.some.injEq] at hF;subst hF;refine AW.ret (hQ _ _ _ ?_ (AaC ?_)).1
  ·simp [Try.f22,h3_,h3__]
  ·simp [h3_,h3__]
 ·replace hF:=AaR h3 hF;have h3_:=Abm h3;have h3__:=Abo h3;have F1:=A3 h3 h3_ h3__;refine TL F1 g r [3,4,5,6] [(2,AV.bool false)] [0,1] [] 2 ?_;simp only [Option.some.injEq] at hF;subst hF;refine AW.ret (hQ _ _ _ ?_ (AaC ?_)).1
  ·simp [Try.f22,F1]
  ·simp [F1]
theorem AfQ (k : Nat) (v0 : Int) (v1 : Int) (v2 : ByteArray) (v3 : Int) (v4 : Int) (v5 : Int) (v6 : Int) (v7 : Int) (v8 : (List Int)) (v9 : (List AaA)) (v10 : ByteArray) (v11 : Int) (v12 : ByteArray) (v13 : Int) (v14 : Int) (v15 : ByteArray) (v16 : Int) (v17 : Int) (v18 : Int) (v19 : Int) (v20 : Int) (v21 : (List Int)) (v22 : (List AaA)) (v23 : ByteArray) (v24 : Int) (v25 : ByteArray) (v26 : (List Int)) (v27 : Bool) (hF : Ace k v0 v1 v2 v3 v4 v5 v6 v7 v8 v9 v10 v11 v12 v13 v14 v15 v16 v17 v18 v19 v20 v21 v22 v23 v24 v25 v26=some v27) :
 AbK Try.prog 5 [AV.agg [AV.int .i64 v0,AV.int .i64 v1,AV.str v2,AV.int .i64 v3,AV.int .i64 v4,AV.int .i64 v5,AV.int .i64 v6,AV.int .i64 v7,AV.lst false false (List.map (AV.int .i64) v8),Q0 v9,AV.str v10,AV.int .i64 v11,AV.str v12],AV.agg [AV.int .i64 v13,AV.int .i64 v14,AV.str v15,AV.int .i64 v16,AV.int .i64 v17,AV.int .i64 v18,AV.int .i64 v19,AV.int .i64 v20,AV.lst false false (List.map (AV.int .i64) v21),Q0 v22,AV.str v23,AV.int .i64 v24,AV.str v25],AV.lst false false (List.map (AV.int .u8) v26)] [] (AV.bool v27) []:=by
 unfold Ace at hF;refine EN Try.func5 ?_;intro c0 w0 Q h0 hQ
 refine WK [(0,AV.agg [Iz v0,Iz v1,AV.str v2,Iz v3,Iz v4,Iz v5,Iz v6,Iz v7,Lz v8,Q0 v9,AV.str v10,Iz v11,AV.str v12]),(1,AV.agg [Iz v13,Iz v14,AV.str v15,Iz v16,Iz v17,Iz v18,Iz v19,Iz v20,Lz v21,Q0 v22,AV.str v23,Iz v24,AV.str v25]),(2,Lb v26)] [] 0 (by simp) (by simp) ?_;refine SW trivial [] [none,none,none] [0,1] [(3,AV.ptr 0 0),(4,AV.ptr 1 0)] [] [(0,.cells [Iz v0,Iz v1,AV.str v2,Iz v3,Iz v4,Iz v5,Iz v6,Iz v7,Lz v8,Q0 v9,AV.str v10,Iz v11,AV.str v12]),(1,.cells [Iz v13,Iz v14,AV.str v15,Iz v16,Iz v17,Iz v18,Iz v19,Iz v20,Lz v21,Q0 v22,AV.str v23,Iz v24,AV.str v25])] 2 ?_;refine AW.seq fun K17 hK17=>?_;refine SR [] [none,none,none,none,some (10,false),some (10,false),some (10,false),none,none,some (15,false),some (15,false),some (15,false),none] fun _ _ g r=>?_;try simp
 and_intros
 try any_goals first | omega | (simp [maxLen] <;> omega)
 obtain ⟨v28,h1,hF⟩:=AaF hF;refine AC (Afm k _ _ _ _ _ _ _ _ _ _ _ _ _ _ h1) (.cons (.same (by simp)) .nil) ?_;by_cases h2 : (!v28)=true
 ·replace hF:=AaQ h2 hF;have h2_:=h2;try simp at h2_
  refine TL (A2 h2 h2_) g r [] [(19,AV.bool true)] [] [] 2 ?_;refine CT (by simp [h2,h2_]) ?_;refine SR [] [none,none] fun _ _ g r=>?_;try simp [h2,h2_]
  and_intros
  try any_goals first | omega | (simp [h2,h2_,maxLen] <;> omega)
  obtain ⟨v29,h3,hF⟩:=AaF hF;refine AC (Adj k _ h3) .nil ?_;refine TL (A2 h2 h2_) g r [2,3,4,19] [(6,AV.bool v29)] [0,1] [] 2 ?_;simp only [Option.some.injEq] at hF;subst hF;refine AW.ret (hQ _ _ _ ?_ (AaC ?_)).1
  ·simp [Try.f5,h2,h2_]
  ·simp [h2,h2_]
 ·replace hF:=AaR h2 hF;have h2_:=h2;try simp at h2_
  try simp [h2,h2_]
  and_intros
  try any_goals first | omega | (simp [h2,h2_,maxLen] <;> omega)
  obtain ⟨v30,h4,hF⟩:=AaF hF;refine AC (Afm k _ _ _ _ _ _ _ _ _ _ _ _ _ _ h4) (.cons (.same (by simp [h2,h2_])) .nil) ?_;by_cases h5 : (!v30)=true
  ·replace hF:=AaQ h5 hF;have h5_:=h5;try simp at h5_
   have F1:=A4 h2 h2_ h5 h5_;refine TL F1 g r [] [(19,AV.bool true)] [] [] 2 ?_;refine CT (by simp [F1]) ?_;refine SR [] [none,none] fun _ _ g r=>?_;try simp [F1]
   and_intros
   try any_goals first | omega | (simp [maxLen,F1] <;> omega)
   obtain ⟨v31,h6,hF⟩:=AaF hF;refine AC (Adj k _ h6) .nil ?_;refine TL F1 g r [2,3,4,19] [(6,AV.bool v31)] [0,1] [] 2 ?_;simp only [Option.some.injEq] at hF;subst hF;refine AW.ret (hQ _ _ _ ?_ (AaC ?_)).1
   ·simp [Try.f5,F1]
   ·simp [F1]
  ·replace hF:=AaR h5 hF;have h5_:=h5;try simp at h5_
   have F2:=A4 h2 h2_ h5 h5_;refine TL F2 g r [] [(19,AV.bool (decide (500<(v26.length : Int))))] [] [] 2 ?_;by_cases h7 : 500<(v26.length : Int)
   ·replace hF:=AaQ h7 hF;have h7_:=h7;try simp at h7_
    have F3:=A3 F2 h7 h7_;refine CT (by simp [F3] <;> omega) ?_;refine SR [] [none,none] fun _ _ g r=>?_;try simp [F3]
    and_intros
    try any_goals first | omega | (simp [maxLen,F3] <;> omega)
    obtain ⟨v32,h8,hF⟩:=AaF hF;refine AC (Adj k _ h8) .nil ?_;refine TL F3 g r [2,3,4,19] [(6,AV.bool v32)] [0,1] [] 2 ?_;simp only [Option.some.injEq] at hF;subst hF;refine AW.ret (hQ _ _ _ ?_ (AaC ?_)).1
    ·simp [Try.f5,F3]
    ·simp [F3]
   ·replace hF:=AaR h7 hF;have h7_:=h7;try simp at h7_
    have F4:=A3 F2 h7 h7_;refine CF (by simp [F4] <;> omega) ?_;refine AW.skip ?_;refine hK17 _ _ _ ?_;refine SR [] [none,none,some (22,true),some (22,true),some (22,true),none,none,some (27,true),some (27,true),some (27,true),some (27,true),none,none,some (33,true),some (33,true),none,none] fun _ _ g r=>?_;try simp [F4]
    and_intros
    try any_goals first | omega | (simp [maxLen,F4] <;> omega)
    obtain ⟨v33,h9,hF⟩:=AaF hF;refine AC (Adj k _ h9) .nil ?_;by_cases h10 : v33=true
    ·replace hF:=AaQ h10 hF;have h10_:=h10;try simp at h10_
     have F5:=A3 F4 h10 h10_;try simp [F5]
     and_intros
     try any_goals first | omega | (simp [maxLen,F5] <;> omega)
     obtain ⟨v34,h11,hF⟩:=AaF hF;refine AC (Afn k _ _ _ _ _ _ _ _ _ _ _ _ _ _ _ _ _ _ _ _ _ _ _ _ _ _ _ h11) (.cons (.same (by simp [F5])) (.cons (.same (by simp [F5])) .nil)) ?_;by_cases h12 : v34=true
     ·replace hF:=AaQ h12 hF;have h12_:=h12;try simp at h12_
      have F6:=A3 F5 h12 h12_;try simp [F6]
      and_intros
      try any_goals first | omega | (simp [maxLen,F6] <;> omega)
      obtain ⟨v35,h13,hF⟩:=AaF hF;refine AC (AgM k _ _ _ _ _ _ _ _ _ _ _ _ _ _ h13) (.cons (.same (by simp [F6])) .nil) ?_;try simp [F6]
      and_intros
      try any_goals first | omega | (simp [maxLen,F6] <;> omega)
      obtain ⟨v36,h14,hF⟩:=AaF hF;refine AC (Afn k _ _ _ _ _ _ _ _ _ _ _ _ _ _ _ _ _ _ _ _ _ _ _ _ _ _ _ h14) (.cons (.same (by simp [F6])) (.cons (.same (by simp [F6])) .nil)) ?_;by_cases h15 : v36=true
      ·replace hF:=AaQ h15 hF;have h15_:=h15;try simp at h15_
       have F7:=A3 F6 h15 h15_;try simp [F7]
       and_intros
       try any_goals first | omega | (simp [maxLen,F7] <;> omega)
       obtain ⟨v37,h16,hF⟩:=AaF hF;refine AC (Aip k _ _ h16) (.cons (.same (by simp [F7])) .nil) ?_;refine TL F7 g r [2,3,4,19] [(6,AV.bool v37)] [0,1] [] 2 ?_;simp only [Option.some.injEq] at hF;subst hF;refine AW.ret (hQ _ _ _ ?_ (AaC ?_)).1
       ·simp [Try.f5,F7]
       ·simp [F7]
      ·replace hF:=AaR h15 hF;have h15_:=h15;try simp at h15_
       have F8:=A3 F6 h15 h15_;refine TL F8 g r [2,3,4,19] [(6,AV.bool false)] [0,1] [] 2 ?_;simp only [Option.some.injEq] at hF;subst hF;refine AW.ret (hQ _ _ _ ?_ (AaC ?_)).1
       ·simp [Try.f5,F8]
       ·simp [F8]
     ·replace hF:=AaR h12 hF;have h12_:=h12;try simp at h12_
      have F9:=A3 F5 h12 h12_;refine TL F9 g r [2,3,4,19] [(6,AV.bool false)] [0,1] [] 2 ?_;simp only [Option.some.injEq] at hF;subst hF;refine AW.ret (hQ _ _ _ ?_ (AaC ?_)).1
      ·simp [Try.f5,F9]
      ·simp [F9]
    ·replace hF:=AaR h10 hF;have h10_:=h10;try simp at h10_
     have F10:=A3 F4 h10 h10_;refine TL F10 g r [2,3,4,19] [(6,AV.bool false)] [0,1] [] 2 ?_;simp only [Option.some.injEq] at hF;subst hF;refine AW.ret (hQ _ _ _ ?_ (AaC ?_)).1
     ·simp [Try.f5,F10]
     ·simp [F10]
end Go.TF
