import Derived.Test.YtomgdcnbceiggaaSmtWal29
import Derived.Test.YtomgdcnbceiggaaSmtWal30
import Derived.Test.YtomgdcnbceiggaaSmtWal31
import Derived.Test.YtomgdcnbceiggaaSmtWal33
import Derived.Test.YtomgdcnbceiggaaSmtWal34
import Derived.Test.YtomgdcnbceiggaaSmtWal35
set_option linter.unusedVariables false
set_option linter.unusedSimpArgs false
set_option maxRecDepth 100000
set_option maxHeartbeats 4000000
namespace Go.TF
open Go Go.Abs Go.Proofs Go.Proofs.YtomgdcnbceiggaaSmT
theorem Acq (k : Nat) (v0 : (List Int)) (v1 : Bool) (v2 : Int) (v3 : ByteArray) (v4 : (List Int)) (v5 : Bool) (hF : AbL k v0 v1 v2=some (v3,v4,v5)) :
 AbP Try.prog 103 [AV.ptr 0 0,AV.int .i64 v2] [.cells [AV.lst false false (List.map (AV.int .u8) v0),AV.bool v1]] (AV.str v3) [some (.cells [AV.lst false false (List.map (AV.int .u8) v4),AV.bool v5])]:=by
 unfold AbL at hF;refine EN Try.func103 ?_;intro c0 w0 Q h0 hQ
 refine WJ [(0,.ptr 0 0),(1,Iz v2)] [(0,.cells [Lb v0,AV.bool v1])] 1 (by simp) ?_;refine SW trivial [] [none] [] [] [] [] 1 ?_;obtain ⟨v6,v7,v8,h1,hF⟩:=AbK hF;refine CL trivial [] N13 (Ag7 k _ _ _ _ _ h1) [1] [(5,.str v6),(6,Sc 1 v7),(7,.bool v8)] [] [(1,.grow (List.map (AV.int .u8) v7))] 2 ?_;refine AW.frz 1 (o := .grow (List.map (AV.int .u8) v7)) (by simp) rfl [(6,Lb v7)] [] ⟨(.l (by simp) (by simp) (by simp) (by simp)),trivial⟩ trivial ?_;refine WJ [(0,.ptr 0 0),(5,.str v6),(6,Lb v7),(7,.bool v8)] [(0,.cells [Lb v0,AV.bool v1])] 2 (by simp) ?_;refine SR [] [none,none,none,none,none,none,none,none,some (25,true),none,none,none,none,none,none,none] fun _ _ g r=>?_;rcases IFo hF with ⟨h2,hF⟩|⟨h2,hF⟩
 ·have h2_:=h2;try simp at h2_
  refine TL (A2 h2 h2_) g r [0,6,7] [] [0] [(0,.cells [Lb v7,AV.bool v8])] 2 ?_;refine SW (A2 h2 h2_) [] N2 [5] [(4,.str v6)] [] [] 2 ?_;simp only [Option.some.injEq,Prod.mk.injEq] at hF;obtain ⟨e0,e1,e2⟩:=hF;subst e0 e1 e2;exact AW.ret (hQ _ _ _ (by simp [Try.f103,h2,h2_]) (AaE (by simp [h2,h2_]))).1
 ·have h2_:=h2;try simp at h2_
  refine TL (A2 h2 h2_) g r [0,6,7] [] [0] [(0,.cells [Lb v7,AV.bool false])] 2 ?_;refine SW (A2 h2 h2_) [] N2 [5] [(4,.str v6)] [] [] 2 ?_;simp only [Option.some.injEq,Prod.mk.injEq] at hF;obtain ⟨e0,e1,e2⟩:=hF;subst e0 e1 e2;exact AW.ret (hQ _ _ _ (by simp [Try.f103,h2,h2_]) (AaE (by simp [h2,h2_]))).1
theorem Ag8 (k : Nat) (v0 : (List Int)) (v1 : Int) (v2 v3 : (List Int)) (v4 : Bool) (hF : AbJ k v0 v1=some (v2,v3,v4)) :
 AbP Try.prog 104 [AV.lst false false (List.map (AV.int .u8) v0),AV.int .i64 v1] [] (AV.tup [Sc 0 v2,Sc 1 v3,AV.bool v4]) [some (Gi v2),some (.grow (List.map (AV.int .u8) v3))]:=by
 unfold AbJ at hF;refine EN Try.func104 ?_;intro c0 w0 Q h0 hQ
 refine WJ [(0,Lb v0),(1,Iz v1)] [] 0 (by simp) ?_;refine SW trivial [] N3 [] [] [] [] 0 ?_;obtain ⟨v5,v6,v7,h1,hF⟩:=AbK hF;refine CL trivial [] N9 (AdW k _ _ _ _ h1) [0] [(0,Sc 0 v6),(7,Iz v5),(8,.bool v7)] [] [(0,.grow (List.map (AV.int .u8) v6))] 1 ?_;refine AW.seq fun K0 hK0=>?_;refine SR [] [none,none,none,some (22,false),some (22,false),none,none,some (26,false),some (26,false),some (26,false),none,none,some (31,false),some (31,false),some (31,false),some (31,false),some (31,false),none] fun _ _ g r=>?_;rcases IFo hF with ⟨h2,hF⟩|⟨h2,hF⟩
 ·have h2_:=h2;try simp at h2_
  refine TL (A2 h2 h2_) g r [1,8] [(37,.bool true)] [] [] 1 ?_;refine CT (by simp [h2,h2_]) ?_;refine SW (A2 h2 h2_) [] N3 [0,7,37] [(4,.lst true true (List.map (AV.int .i64) ([] : List Int))),(5,.lst true true (List.map (AV.int .u8) ([] : List Int))),(6,.bool false)] [0] [] 1 ?_;refine AW.own' 4 1 true (by simp [h2,h2_]) (by decide) ?_;refine AW.own' 5 1 true (by simp [h2,h2_]) (by decide) ?_;refine RM h0 [(0,1),(1,2)] [(4,.slc 0 0 1 (([] : List Int).length) false),(5,.slc 1 0 1 (([] : List Int).length) false),(6,.bool false)] [(0,Gi ([] : List Int)),(1,.grow (List.map (AV.int .u8) ([] : List Int)))] 2 (by simp [h2,h2_]) (by simp [h2,h2_]) ?_;simp only [Option.some.injEq,Prod.mk.injEq] at hF;obtain ⟨e0,e1,e2⟩:=hF;subst e0 e1 e2;exact AW.ret (hQ _ _ _ (by simp [Try.f104,h2,h2_]) (AaE (by simp [h2,h2_]))).1
 ·have h2_:=h2;try simp at h2_
  rcases IFo hF with ⟨h3,hF⟩|⟨h3,hF⟩
  ·have h3_:=h3;try simp at h3_
   have F1:=A4 h2 h2_ h3 h3_;refine TL F1 g r [1,8] [(37,.bool true)] [] [] 1 ?_;refine CT (by simp [F1]) ?_;refine SW F1 [] N3 [0,7,37] [(4,.lst true true (List.map (AV.int .i64) ([] : List Int))),(5,.lst true true (List.map (AV.int .u8) ([] : List Int))),(6,.bool false)] [0] [] 1 ?_;refine AW.own' 4 1 true (by simp [F1]) (by decide) ?_;refine AW.own' 5 1 true (by simp [F1]) (by decide) ?_;refine RM h0 [(0,1),(1,2)] [(4,.slc 0 0 1 (([] : List Int).length) false),(5,.slc 1 0 1 (([] : List Int).length) false),(6,.bool false)] [(0,Gi ([] : List Int)),(1,.grow (List.map (AV.int .u8) ([] : List Int)))] 2 (by simp [F1]) (by simp [F1]) ?_;simp only [Option.some.injEq,Prod.mk.injEq] at hF;obtain ⟨e0,e1,e2⟩:=hF;subst e0 e1 e2;exact AW.ret (hQ _ _ _ (by simp [Try.f104,F1]) (AaE (by simp [F1]))).1
  ·have h3_:=h3;try simp at h3_
   rcases IFo hF with ⟨h4,hF⟩|⟨h4,hF⟩
   ·have h4_:=h4;try simp at h4_
    have F2:=A6 h2 h2_ h3 h3_ h4 h4_;refine TL F2 g r [1,8] [(37,.bool true)] [] [] 1 ?_;refine CT (by simp [F2]) ?_;refine SW F2 [] N3 [0,7,37] [(4,.lst true true (List.map (AV.int .i64) ([] : List Int))),(5,.lst true true (List.map (AV.int .u8) ([] : List Int))),(6,.bool false)] [0] [] 1 ?_;refine AW.own' 4 1 true (by simp [F2]) (by decide) ?_;refine AW.own' 5 1 true (by simp [F2]) (by decide) ?_;refine RM h0 [(0,1),(1,2)] [(4,.slc 0 0 1 (([] : List Int).length) false),(5,.slc 1 0 1 (([] : List Int).length) false),(6,.bool false)] [(0,Gi ([] : List Int)),(1,.grow (List.map (AV.int .u8) ([] : List Int)))] 2 (by simp [F2]) (by simp [F2]) ?_;simp only [Option.some.injEq,Prod.mk.injEq] at hF;obtain ⟨e0,e1,e2⟩:=hF;subst e0 e1 e2;exact AW.ret (hQ _ _ _ (by simp [Try.f104,F2]) (AaE (by simp [F2]))).1
   ·have h4_:=h4;try simp at h4_
    have F3:=A6 h2 h2_ h3 h3_ h4 h4_;refine TL F3 g r [1,8] [(37,.bool (decide (IntKind.wrap .i64 (Int.tdiv (v6.length : Int) 8)<v5)))] [] [] 1 ?_;rcases IFo hF with ⟨h5,hF⟩|⟨h5,hF⟩
    ·have h5_:=h5;try simp at h5_
     have F4:=A3 F3 h5 h5_;refine CT (by simp [F4] <;> omega) ?_;refine SW F4 [] N3 [0,7,37] [(4,.lst true true (List.map (AV.int .i64) ([] : List Int))),(5,.lst true true (List.map (AV.int .u8) ([] : List Int))),(6,.bool false)] [0] [] 1 ?_;refine AW.own' 4 1 true (by simp [F4]) (by decide) ?_;refine AW.own' 5 1 true (by simp [F4]) (by decide) ?_;refine RM h0 [(0,1),(1,2)] [(4,.slc 0 0 1 (([] : List Int).length) false),(5,.slc 1 0 1 (([] : List Int).length) false),(6,.bool false)] [(0,Gi ([] : List Int)),(1,.grow (List.map (AV.int .u8) ([] : List Int)))] 2 (by simp [F4]) (by simp [F4]) ?_;simp only [Option.some.injEq,Prod.mk.injEq] at hF;obtain ⟨e0,e1,e2⟩:=hF;subst e0 e1 e2;exact AW.ret (hQ _ _ _ (by simp [Try.f104,F4]) (AaE (by simp [F4]))).1
    ·have h5_:=h5;try simp at h5_
     have F5:=A3 F3 h5 h5_;refine CF (by simp [F5] <;> omega) ?_;refine AW.skip (hK0 _ _ _ ?_);refine SW F5 [] [none] [37] [(9,.lst true true (List.map (AV.int .i64) ([] : List Int)))] [] [] 1 ?_;refine AW.seq fun K1 hK1=>?_;refine SW F5 [] [none] [] [(10,Iz 0)] [] [] 1 ?_;refine AW.block ?_;refine AW.own' 9 1 true (by simp [F5]) (by decide) ?_;refine AW.loopF (α:=(Int×(List Int)×(List Int))) (fun n (v8,v9,v10)=>AbJ.L1 k v5 n v8 v9 v10=some (v2,v3,v4)) (fun (v8,v9,v10)=>[(0,Sc 0 v9),(7,Iz v5),(9,Sc 1 v10),(10,Iz v8)]) (fun (v8,v9,v10)=>[(0,.grow (List.map (AV.int .u8) v9)),(1,Gi v10)]) 2 k ((0,v6,([] : List Int))) hF (by simp [F5]) (by simp [F5]) (by simp) ?_;rintro (_|n1) ⟨v8,v9,v10⟩ hF K2 hK2
     ·try dsimp only at hF
      rw [AbJ.L1] at hF; cases hF
     try dsimp only at hF
     rw [AbJ.L1] at hF;refine AW.seq fun K3 hK3=>?_;refine SW F5 [] N3 [] [(40,.bool (decide (v8<v5)))] [] [] 2 ?_;rcases IFo hF with ⟨h6,hF⟩|⟨h6,hF⟩
     ·have h6_:=h6;try simp at h6_
      have F6:=A3 F5 h6 h6_;refine CT (by simp [F6] <;> omega) ?_;refine AW.skip (hK3 _ _ _ ?_);refine WJ [(0,Sc 0 v9),(7,Iz v5),(9,Sc 1 v10),(10,Iz v8)] [(0,.grow (List.map (AV.int .u8) v9)),(1,Gi v10)] 2 (by simp [F6]) ?_;refine AW.frz 0 (o := .grow (List.map (AV.int .u8) v9)) (by simp [F6]) rfl [(0,Lb v9)] [] ⟨(.l (by simp) (by simp) (by simp) (by simp)),trivial⟩ trivial ?_;refine WJ [(0,Lb v9),(7,Iz v5),(9,Sc 1 v10),(10,Iz v8)] [(1,Gi v10)] 2 (by simp [F6]) ?_;refine AW.seq fun K4 hK4=>?_;refine AW.block ?_;obtain ⟨v11,v12,v13,h7,hF⟩:=AbK hF;refine CL F6 [] N9 (AdW k _ _ _ _ h7) [0] [(11,Iz v11),(12,Sc 2 v12)] [] [(2,.grow (List.map (AV.int .u8) v12))] 3 ?_;refine RG [] N7 fun _ _ g r=>?_;obtain ⟨h8,hF⟩:=AaP hF;have h8_:=h8;try simp at h8_
      have F7:=A2 F6 h8;try simp [F7]
      and_intros <;> first | exact GK g | apply r | omega | (simp [maxLen,F7] <;> omega)
      refine hK4 _ _ _ ?_;refine WK [(0,Sc 2 v12),(7,Iz v5),(9,.slc 3 0 1 ((v10++([v11] : List Int)).length) false),(10,Iz v8)] [(2,.grow (List.map (AV.int .u8) v12)),(3,Gi (v10++([v11] : List Int)))] 4 (by simp [F7] <;> omega) (by simp [F7]) ?_;refine RG [] N3 fun _ _ g r=>?_;try simp [F7]
      and_intros <;> first | exact GK g | apply r | omega | (simp [maxLen,F7] <;> omega)
      refine hK2 _ _ _ ?_;refine RN h0 [(0,2),(1,3)] [(0,Sc 0 v12),(7,Iz v5),(9,.slc 1 0 1 ((v10++([v11] : List Int)).length) false),(10,Iz (IntKind.wrap .i64 (v8+1)))] [(0,.grow (List.map (AV.int .u8) v12)),(1,Gi (v10++([v11] : List Int)))] 2 (by simp [F7] <;> omega) (by simp [F7]) ?_;exact NX (k':=n1) ((IntKind.wrap .i64 (v8+1),v12,v10++([v11] : List Int))) hF (by simp [F7]) (by simp [F7])
     ·have h6_:=h6;try simp at h6_
      have F8:=A3 F5 h6 h6_;refine CF (by simp [F8] <;> omega) ?_;refine AW.exit ?_;try simp
      refine hK1 _ _ _ ?_;refine SQ [] N5 fun _ _ g r=>?_;try simp [F8]
      and_intros <;> first | exact GK g | apply r | omega | (simp [maxLen,F8] <;> omega)
      refine RM h0 [(0,1),(1,0)] [(4,Sc 0 v10),(5,Sc 1 v9),(6,.bool true)] [(0,Gi v10),(1,.grow (List.map (AV.int .u8) v9))] 2 (by simp [F8]) (by simp [F8]) ?_;simp only [Option.some.injEq,Prod.mk.injEq] at hF;obtain ⟨e0,e1,e2⟩:=hF;subst e0 e1 e2;exact AW.ret (hQ _ _ _ (by simp [Try.f104,F8]) (AaE (by simp [F8]))).1
abbrev AbE  : Aan := .cells [Iz 0,Iz 0,AV.str (ByteArray.mk #[]),Iz 0,Iz 0,Iz 0,Iz 0,Iz 0,AV.lst true true (List.map (AV.int .i64) ([] : List Int)),AV.lst true true (List.map AaD.av ([] : List AaD)),AV.str (ByteArray.mk #[]),Iz 0,AV.str (ByteArray.mk #[])]
abbrev Ab5  : Aan := .cells [Iz 0,Iz 0,AV.str (ByteArray.mk #[]),Iz 0,Iz 0,Iz 0,Iz 0,Iz 0,AV.lst true true (List.map (AV.int .i64) ([] : List Int)),AV.slc 1 0 3 (([] : List AaD).length) false,AV.str (ByteArray.mk #[]),Iz 0,AV.str (ByteArray.mk #[])]
abbrev Acg  : Aan := .cells [Iz 0,Iz 0,AV.str (ByteArray.mk #[]),Iz 0,Iz 0,Iz 0,Iz 0,Iz 0,AV.lst false false (List.map (AV.int .i64) ([] : List Int)),Q0 ([] : List AaD),AV.str (ByteArray.mk #[]),Iz 0,AV.str (ByteArray.mk #[])]
theorem Ah3 (k : Nat) (v0 : (List Int)) (v1 : AaI) (v2 : Int) (hF : Aab k v0=some (v1,v2)) :
 AbP Try.prog 60 [AV.lst false false (List.map (AV.int .u8) v0)] [] (AV.tup [AV.agg [AV.int .i64 v1.Author,AV.int .i64 v1.Number,AV.str v1.Prev,AV.int .i64 v1.Time,AV.int .i64 v1.Kind,AV.int .i64 v1.A,AV.int .i64 v1.B,AV.int .i64 v1.C,AV.lst false false (List.map (AV.int .i64) v1.Lst),Q0 v1.Pins,AV.str v1.Body,AV.int .i64 v1.Seal_Key,AV.str v1.Seal_Digest],AV.int .i64 v2]) []:=by
 unfold Aab at hF;refine EN Try.func60 ?_;intro c0 w0 Q h0 hQ
 refine WJ [(0,Lb v0)] [] 0 (by simp) ?_;refine SW trivial [] N2 [] [(2,.ptr 0 0)] [] [(0,AbE )] 1 ?_;refine SW trivial [] N4 [] [(4,.ptr 1 0)] [] [(1,.cells [Lb v0,AV.bool true])] 2 ?_;refine SW trivial [] [none] [] [(5,.ptr 2 0)] [] [(2,AbE )] 3 ?_;refine SR [] N12 fun _ _ g r=>?_;try simp
 and_intros
 try any_goals first | omega | (simp [maxLen] <;> omega)
 obtain ⟨v3,v4,v5,h1,hF⟩:=AbK hF;refine AaO (AbM k _ _ _ _ _ h1) (by simp) [1] [] [1] rfl (.cons (.same (by simp)) .nil) (by simp) (by decide) (by simp) (by simp) (.inl rfl) (by simp) (by simp) ?_;try simp
 and_intros
 try any_goals first | omega | (simp [maxLen] <;> omega)
 obtain ⟨v6,v7,v8,h2,hF⟩:=AbK hF;refine AaO (AbM k _ _ _ _ _ h2) (by simp) [1] [] [1] rfl (.cons (.same (by simp)) .nil) (by simp) (by decide) (by simp) (by simp) (.inl rfl) (by simp) (by simp) ?_;try simp
 and_intros
 try any_goals first | omega | (simp [maxLen] <;> omega)
 obtain ⟨v9,v10,v11,h3,hF⟩:=AbK hF;refine AaO (Acq k _ _ _ _ _ _ h3) (by simp) [1] [] [1] rfl (.cons (.same (by simp)) (.cons (.same (by simp)) .nil)) (by simp) (by decide) (by simp) (by simp) (.inl rfl) (by simp) (by simp) ?_;refine TL trivial g r [] [] [1,2] [(1,.cells [Lb v10,AV.bool v11]),(2,.cells [Iz v3,Iz v6,AV.str v9,Iz 0,Iz 0,Iz 0,Iz 0,Iz 0,AV.lst true true (List.map (AV.int .i64) ([] : List Int)),AV.lst true true (List.map AaD.av ([] : List AaD)),AV.str (ByteArray.mk #[]),Iz 0,AV.str (ByteArray.mk #[])])] 3 ?_;refine SR [] N20 fun _ _ g r=>?_;try simp
 and_intros
 try any_goals first | omega | (simp [maxLen] <;> omega)
 obtain ⟨v12,v13,v14,h4,hF⟩:=AbK hF;refine AaO (AbM k _ _ _ _ _ h4) (by simp) [1] [] [1] rfl (.cons (.same (by simp)) .nil) (by simp) (by decide) (by simp) (by simp) (.inl rfl) (by simp) (by simp) ?_;try simp
 and_intros
 try any_goals first | omega | (simp [maxLen] <;> omega)
 obtain ⟨v15,v16,v17,h5,hF⟩:=AbK hF;refine AaO (AbM k _ _ _ _ _ h5) (by simp) [1] [] [1] rfl (.cons (.same (by simp)) .nil) (by simp) (by decide) (by simp) (by simp) (.inl rfl) (by simp) (by simp) ?_;try simp
 and_intros
 try any_goals first | omega | (simp [maxLen] <;> omega)
 obtain ⟨v18,v19,v20,h6,hF⟩:=AbK hF;refine AaO (AbM k _ _ _ _ _ h6) (by simp) [1] [] [1] rfl (.cons (.same (by simp)) .nil) (by simp) (by decide) (by simp) (by simp) (.inl rfl) (by simp) (by simp) ?_;try simp
 and_intros
 try any_goals first | omega | (simp [maxLen] <;> omega)
 obtain ⟨v21,v22,v23,h7,hF⟩:=AbK hF;refine AaO (AbM k _ _ _ _ _ h7) (by simp) [1] [] [1] rfl (.cons (.same (by simp)) .nil) (by simp) (by decide) (by simp) (by simp) (.inl rfl) (by simp) (by simp) ?_;try simp
 and_intros
 try any_goals first | omega | (simp [maxLen] <;> omega)
 obtain ⟨v24,v25,v26,h8,hF⟩:=AbK hF;refine AaO (AbM k _ _ _ _ _ h8) (by simp) [1] [] [1] rfl (.cons (.same (by simp)) .nil) (by simp) (by decide) (by simp) (by simp) (.inl rfl) (by simp) (by simp) ?_;refine TL trivial g r [] [] [1,2] [(1,.cells [Lb v25,AV.bool v26]),(2,.cells [Iz v3,Iz v6,AV.str v9,Iz v12,Iz v15,Iz v18,Iz v21,Iz v24,AV.lst true true (List.map (AV.int .i64) ([] : List Int)),AV.lst true true (List.map AaD.av ([] : List AaD)),AV.str (ByteArray.mk #[]),Iz 0,AV.str (ByteArray.mk #[])])] 3 ?_;obtain ⟨v27,v28,v29,h9,hF⟩:=AbK hF;refine CL trivial [] N12 (Ag8 k _ _ _ _ _ h9) [] [(6,Sc 3 v27),(7,Sc 4 v28),(8,.bool v29)] [] [(3,Gi v27),(4,.grow (List.map (AV.int .u8) v28))] 5 ?_;refine AW.frz 3 (o:=Gi v27) (by simp) rfl [(6,Lz v27)] [] ⟨(.l (by simp) (by simp) (by simp) (by simp)),trivial⟩ trivial ?_;refine AW.frz 4 (o := .grow (List.map (AV.int .u8) v28)) (by simp) rfl [(7,Lb v28)] [] ⟨(.l (by simp) (by simp) (by simp) (by simp)),trivial⟩ trivial ?_;refine WJ [(0,Lb v0),(2,.ptr 0 0),(4,.ptr 1 0),(5,.ptr 2 0),(6,Lz v27),(7,Lb v28),(8,.bool v29)] [(0,AbE ),(1,.cells [Lb v25,AV.bool v26]),(2,.cells [Iz v3,Iz v6,AV.str v9,Iz v12,Iz v15,Iz v18,Iz v21,Iz v24,AV.lst true true (List.map (AV.int .i64) ([] : List Int)),AV.lst true true (List.map AaD.av ([] : List AaD)),AV.str (ByteArray.mk #[]),Iz 0,AV.str (ByteArray.mk #[])])] 5 (by simp) ?_;refine AW.midF (α:=Bool) (fun v30=>Aab.J1 k v0 v3 v6 v9 v12 v15 v18 v21 v24 v27 v28 v30=some (v1,v2)) (fun v30=>[(0,Lb v0),(2,.ptr 0 0),(4,.ptr 1 0),(5,.ptr 2 0)]) (fun v30=>[(0,AbE ),(1,.cells [Lb v28,AV.bool v30]),(2,.cells [Iz v3,Iz v6,AV.str v9,Iz v12,Iz v15,Iz v18,Iz v21,Iz v24,Lz v27,AV.lst true true (List.map AaD.av ([] : List AaD)),AV.str (ByteArray.mk #[]),Iz 0,AV.str (ByteArray.mk #[])])]) 3 (fun K0 hK0=>?_) ?_
 ·refine RG [] [none,none,none,none,none,none,none,none,none,some (57,true),none,none,none,none,none,none,none,none,none] fun _ _ g r=>?_;rcases IFo hF with ⟨h29,hF⟩|⟨h29,hF⟩
  ·have h29_:=h29;try simp at h29_
   try simp [h29,h29_]
   and_intros <;> first | exact GK g | apply r | omega | (simp [h29,h29_,maxLen] <;> omega)
   refine hK0 _ _ _ ?_;refine RN h0 [(0,0),(1,1),(2,2)] [(0,Lb v0),(2,.ptr 0 0),(4,.ptr 1 0),(5,.ptr 2 0)] [(0,AbE ),(1,.cells [Lb v28,AV.bool v29]),(2,.cells [Iz v3,Iz v6,AV.str v9,Iz v12,Iz v15,Iz v18,Iz v21,Iz v24,Lz v27,AV.lst true true (List.map AaD.av ([] : List AaD)),AV.str (ByteArray.mk #[]),Iz 0,AV.str (ByteArray.mk #[])])] 3 (by simp [h29,h29_]) (by simp [h29,h29_]) ?_;exact JN (v29) hF (by simp [h29,h29_]) (by simp [h29,h29_])
  ·have h29_:=h29;try simp at h29_
   try simp [h29,h29_]
   and_intros <;> first | exact GK g | apply r | omega | (simp [h29,h29_,maxLen] <;> omega)
   refine hK0 _ _ _ ?_;refine RN h0 [(0,0),(1,1),(2,2)] [(0,Lb v0),(2,.ptr 0 0),(4,.ptr 1 0),(5,.ptr 2 0)] [(0,AbE ),(1,.cells [Lb v28,AV.bool false]),(2,.cells [Iz v3,Iz v6,AV.str v9,Iz v12,Iz v15,Iz v18,Iz v21,Iz v24,Lz v27,AV.lst true true (List.map AaD.av ([] : List AaD)),AV.str (ByteArray.mk #[]),Iz 0,AV.str (ByteArray.mk #[])])] 3 (by simp [h29,h29_]) (by simp [h29,h29_]) ?_;exact JN (false) hF (by simp [h29,h29_]) (by simp [h29,h29_])
 ·rintro v30 hF
  try dsimp only at hF
  unfold Aab.J1 at hF;refine AW.midF (α:=((List Int)×Bool×(List AaD))) (fun (v31,v32,v33)=>Aab.J2 k v0 v3 v6 v9 v12 v15 v18 v21 v24 v27 v31 v32 v33=some (v1,v2)) (fun (v31,v32,v33)=>[(0,Lb v0),(2,.ptr 0 0),(4,.ptr 2 0),(5,.ptr 3 0)]) (fun (v31,v32,v33)=>[(0,Ab5 ),(1,.grow (AaM (List.map AaD.av ([] : List AaD)))),(2,.cells [Lb v31,AV.bool v32]),(3,.cells [Iz v3,Iz v6,AV.str v9,Iz v12,Iz v15,Iz v18,Iz v21,Iz v24,Lz v27,AV.slc 4 0 3 v33.length false,AV.str (ByteArray.mk #[]),Iz 0,AV.str (ByteArray.mk #[])]),(4,.grow (AaM (List.map AaD.av v33)))]) 5 (fun K1 hK1=>?_) ?_
  ·refine SR [] N3 fun _ _ g r=>?_;try simp
   and_intros
   try any_goals first | omega | (simp [maxLen] <;> omega)
   obtain ⟨v47,v48,v49,h21,hF⟩:=AbK hF;refine AaO (AbM k _ _ _ _ _ h21) (by simp) [1] [] [1] rfl (.cons (.same (by simp)) .nil) (by simp) (by decide) (by simp) (by simp) (.inl rfl) (by simp) (by simp) ?_;refine TL trivial g r [] [(9,Iz v47)] [1] [(1,.cells [Lb v48,AV.bool v49])] 3 ?_;refine AW.block ?_;refine AW.ownC 0 9 3 true (cs:=[Iz 0,Iz 0,AV.str (ByteArray.mk #[]),Iz 0,Iz 0,Iz 0,Iz 0,Iz 0,AV.lst true true (List.map (AV.int .i64) ([] : List Int)),AV.lst true true (List.map AaD.av ([] : List AaD)),AV.str (ByteArray.mk #[]),Iz 0,AV.str (ByteArray.mk #[])]) (by simp) (by simp) ?_;refine AW.ownC 2 9 3 true (cs:=[Iz v3,Iz v6,AV.str v9,Iz v12,Iz v15,Iz v18,Iz v21,Iz v24,Lz v27,AV.lst true true (List.map AaD.av ([] : List AaD)),AV.str (ByteArray.mk #[]),Iz 0,AV.str (ByteArray.mk #[])]) (by simp) (by simp) ?_;refine RM h0 [(0,0),(1,3),(2,1),(3,2),(4,4)] [(0,Lb v0),(2,.ptr 0 0),(4,.ptr 2 0),(5,.ptr 3 0),(9,Iz v47)] [(0,Ab5 ),(1,.grow (AaM (List.map AaD.av ([] : List AaD)))),(2,.cells [Lb v48,AV.bool v49]),(3,.cells [Iz v3,Iz v6,AV.str v9,Iz v12,Iz v15,Iz v18,Iz v21,Iz v24,Lz v27,AV.slc 4 0 3 (([] : List AaD).length) false,AV.str (ByteArray.mk #[]),Iz 0,AV.str (ByteArray.mk #[])]),(4,.grow (AaM (List.map AaD.av ([] : List AaD))))] 5 (by simp) (by simp) ?_;refine AW.loopF (α:=(Int×(List Int)×Bool×(List AaD))) (fun n (v50,v51,v52,v53)=>Aab.L3 k v0 v3 v6 v9 v12 v15 v18 v21 v24 v27 n v50 v51 v52 v53=some (v1,v2)) (fun (v50,v51,v52,v53)=>[(0,Lb v0),(2,.ptr 0 0),(4,.ptr 2 0),(5,.ptr 3 0),(9,Iz v50)]) (fun (v50,v51,v52,v53)=>[(0,Ab5 ),(1,.grow (AaM (List.map AaD.av ([] : List AaD)))),(2,.cells [Lb v51,AV.bool v52]),(3,.cells [Iz v3,Iz v6,AV.str v9,Iz v12,Iz v15,Iz v18,Iz v21,Iz v24,Lz v27,AV.slc 4 0 3 v53.length false,AV.str (ByteArray.mk #[]),Iz 0,AV.str (ByteArray.mk #[])]),(4,.grow (AaM (List.map AaD.av v53)))]) 5 k ((v47,v48,v49,([] : List AaD))) hF (by simp) (by simp) (by simp) ?_;rintro (_|n3) ⟨v50,v51,v52,v53⟩ hF K2 hK2
   ·try dsimp only at hF
    rw [Aab.L3] at hF; cases hF
   try dsimp only at hF
   rw [Aab.L3] at hF;refine AW.seq fun K3 hK3=>?_;refine SQ [] [none,none,none,some (69,true),some (69,true),some (69,true),some (69,true),none] fun _ _ g r=>?_;rcases IFo hF with ⟨h22,hF⟩|⟨h22,hF⟩
   ·have h22_:=h22;try simp at h22_
    try simp [h22,h22_]
    and_intros <;> first | exact GK g | apply r | omega | (simp [h22,h22_,maxLen] <;> omega)
    refine WJ [(0,Lb v0),(2,.ptr 0 0),(4,.ptr 2 0),(5,.ptr 3 0),(9,Iz v50),(74,.bool v52)] [(0,Ab5 ),(1,.grow (AaM (List.map AaD.av ([] : List AaD)))),(2,.cells [Lb v51,AV.bool v52]),(3,.cells [Iz v3,Iz v6,AV.str v9,Iz v12,Iz v15,Iz v18,Iz v21,Iz v24,Lz v27,AV.slc 4 0 3 v53.length false,AV.str (ByteArray.mk #[]),Iz 0,AV.str (ByteArray.mk #[])]),(4,.grow (AaM (List.map AaD.av v53)))] 5 (by simp [h22,h22_]) ?_;rcases IFo hF with ⟨h23,hF⟩|⟨h23,hF⟩
    ·have h23_:=h23;try simp at h23_
     have F1:=A4 h22 h22_ h23 h23_;refine CT (by simp [F1] <;> omega) ?_;refine AW.skip (hK3 _ _ _ ?_);refine AW.seq fun K4 hK4=>?_;refine AW.block ?_;refine AW.seq fun K5 hK5=>?_;refine SW F1 [] N4 [74] [(80,.bool (decide (64≤(v53.length : Int))))] [] [] 5 ?_;rcases IFo hF with ⟨h24,hF⟩|⟨h24,hF⟩
     ·have h24_:=h24;try simp at h24_
      have F2:=A3 F1 h24 h24_;refine CT (by simp [F2] <;> omega) ?_;refine SW F2 [] N3 [0,4,5,9,80] [(3,Iz 1)] [0,1,2,3,4] [(0,AbE )] 5 ?_;refine AW.flg [] [(0,Acg )] trivial ⟨⟨(AbE ),by simp [F2],(.mk (.cons (.same _) (.cons (.same _) (.cons (.same _) (.cons (.same _) (.cons (.same _) (.cons (.same _) (.cons (.same _) (.cons (.same _) (.cons (.lst (by simp)) (.cons (.lst (by simp)) (.cons (.same _) (.cons (.same _) (.cons (.same _) .nil))))))))))))))⟩,trivial⟩ (by simp) ?_;simp only [Option.some.injEq,Prod.mk.injEq] at hF;obtain ⟨e0,e1⟩:=hF;subst e0 e1;exact AW.ret (hQ _ _ _ (by simp [Try.f60,F2]) (AaE (by simp [F2]))).1
     ·have h24_:=h24;try simp at h24_
      have F3:=A3 F1 h24 h24_;refine CF (by simp [F3] <;> omega) ?_;refine AW.skip (hK5 _ _ _ ?_);refine SR [] N9 fun _ _ g r=>?_;try simp [F3]
      and_intros
      try any_goals first | omega | (simp [maxLen,F3] <;> omega)
      obtain ⟨v54,v55,v56,h25,hF⟩:=AbK hF;refine AaO (AbM k _ _ _ _ _ h25) (by simp) [2] [] [2] rfl (.cons (.same (by simp [F3])) .nil) (by simp [F3]) (by decide) (by simp) (by simp) (.inl rfl) (by simp) (by simp) ?_;try simp [F3]
      and_intros
      try any_goals first | omega | (simp [maxLen,F3] <;> omega)
      obtain ⟨v57,v58,v59,h26,hF⟩:=AbK hF;refine AaO (AbM k _ _ _ _ _ h26) (by simp) [2] [] [2] rfl (.cons (.same (by simp [F3])) .nil) (by simp [F3]) (by decide) (by simp) (by simp) (.inl rfl) (by simp) (by simp) ?_;try simp [F3]
      and_intros
      try any_goals first | omega | (simp [maxLen,F3] <;> omega)
      obtain ⟨v60,v61,v62,h27,hF⟩:=AbK hF;refine AaO (Acq k _ _ _ _ _ _ h27) (by simp) [2] [] [2] rfl (.cons (.same (by simp [F3])) (.cons (.same (by simp [F3])) .nil)) (by simp [F3]) (by decide) (by simp) (by simp) (.inl rfl) (by simp) (by simp) ?_;refine TL F3 g r [80] [(10,.ptr 5 0)] [2] [(2,.cells [Lb v61,AV.bool v62]),(5,.cells [Iz v54,Iz v57,AV.str v60])] 6 ?_;refine RG [] N7 fun _ _ g r=>?_;obtain ⟨h28,hF⟩:=AaP hF;have h28_:=h28;try simp at h28_
      have F4:=A2 F3 h28;try simp [F4]
      and_intros <;> first | exact GK g | apply r | omega | (simp [maxLen,F4] <;> omega)
      refine hK4 _ _ _ ?_;refine WK [(0,Lb v0),(2,.ptr 0 0),(4,.ptr 2 0),(5,.ptr 3 0),(9,Iz v50)] [(0,Ab5 ),(1,.grow (AaM (List.map AaD.av ([] : List AaD)))),(2,.cells [Lb v61,AV.bool v62]),(3,.cells [Iz v3,Iz v6,AV.str v9,Iz v12,Iz v15,Iz v18,Iz v21,Iz v24,Lz v27,AV.slc 6 0 3 ((v53++([(AaD.mk v54 v57 v60)] : List AaD)).length) false,AV.str (ByteArray.mk #[]),Iz 0,AV.str (ByteArray.mk #[])]),(6,.grow (AaM (List.map AaD.av (v53++([(AaD.mk v54 v57 v60)] : List AaD)))))] 7 (by simp [F4]) (by simp [F4] <;> omega) ?_;refine RG [] N3 fun _ _ g r=>?_;try simp [F4]
      and_intros <;> first | exact GK g | apply r | omega | (simp [maxLen,F4] <;> omega)
      refine hK2 _ _ _ ?_;refine RN h0 [(0,0),(1,1),(2,2),(3,3),(4,6)] [(0,Lb v0),(2,.ptr 0 0),(4,.ptr 2 0),(5,.ptr 3 0),(9,Iz (IntKind.wrap .i64 (v50-1)))] [(0,Ab5 ),(1,.grow (AaM (List.map AaD.av ([] : List AaD)))),(2,.cells [Lb v61,AV.bool v62]),(3,.cells [Iz v3,Iz v6,AV.str v9,Iz v12,Iz v15,Iz v18,Iz v21,Iz v24,Lz v27,AV.slc 4 0 3 ((v53++([(AaD.mk v54 v57 v60)] : List AaD)).length) false,AV.str (ByteArray.mk #[]),Iz 0,AV.str (ByteArray.mk #[])]),(4,.grow (AaM (List.map AaD.av (v53++([(AaD.mk v54 v57 v60)] : List AaD)))))] 5 (by simp [F4]) (by simp [F4] <;> omega) ?_;exact NX (k':=n3) ((IntKind.wrap .i64 (v50-1),v61,v62,v53++([(AaD.mk v54 v57 v60)] : List AaD))) hF (by simp [F4]) (by simp [F4])
    ·have h23_:=h23;try simp at h23_
     have F5:=A4 h22 h22_ h23 h23_;refine CF (by simp [F5] <;> omega) ?_;refine AW.exit ?_;try simp
     refine hK1 _ _ _ ?_;exact JN ((v51,v52,v53)) hF (by simp [F5]) (by simp [F5])
   ·have h22_:=h22;try simp at h22_
    try simp [h22,h22_]
    and_intros <;> first | exact GK g | apply r | omega | (simp [h22,h22_,maxLen] <;> omega)
    refine WJ [(0,Lb v0),(2,.ptr 0 0),(4,.ptr 2 0),(5,.ptr 3 0),(9,Iz v50),(74,.bool false)] [(0,Ab5 ),(1,.grow (AaM (List.map AaD.av ([] : List AaD)))),(2,.cells [Lb v51,AV.bool v52]),(3,.cells [Iz v3,Iz v6,AV.str v9,Iz v12,Iz v15,Iz v18,Iz v21,Iz v24,Lz v27,AV.slc 4 0 3 v53.length false,AV.str (ByteArray.mk #[]),Iz 0,AV.str (ByteArray.mk #[])]),(4,.grow (AaM (List.map AaD.av v53)))] 5 (by simp [h22,h22_]) ?_;refine CF (by simp [h22,h22_]) ?_;refine AW.exit ?_;try simp
    refine hK1 _ _ _ ?_;exact JN ((v51,v52,v53)) hF (by simp [h22,h22_]) (by simp [h22,h22_])
  ·rintro ⟨v31,v32,v33⟩ hF
   try dsimp only at hF
   unfold Aab.J2 at hF;refine SR [] N4 fun _ _ g r=>?_;try simp
   and_intros
   try any_goals first | omega | (simp [maxLen] <;> omega)
   obtain ⟨v34,v35,v36,h10,hF⟩:=AbK hF;refine AaO (Acq k _ _ _ _ _ _ h10) (by simp) [2] [] [2] rfl (.cons (.same (by simp)) (.cons (.same (by simp)) .nil)) (by simp) (by decide) (by simp) (by simp) (.inl rfl) (by simp) (by simp) ?_;refine TL trivial g r [] [] [2,3] [(2,.cells [Lb v35,AV.bool v36]),(3,.cells [Iz v3,Iz v6,AV.str v9,Iz v12,Iz v15,Iz v18,Iz v21,Iz v24,Lz v27,AV.slc 4 0 3 v33.length false,AV.str v34,Iz 0,AV.str (ByteArray.mk #[])])] 5 ?_;refine SR [] N7 fun _ _ g r=>?_;try simp
   and_intros
   try any_goals first | omega | (simp [maxLen] <;> omega)
   obtain ⟨v37,v38,v39,h11,hF⟩:=AbK hF;refine AaO (AbM k _ _ _ _ _ h11) (by simp) [2] [] [2] rfl (.cons (.same (by simp)) .nil) (by simp) (by decide) (by simp) (by simp) (.inl rfl) (by simp) (by simp) ?_;try simp
   and_intros
   try any_goals first | omega | (simp [maxLen] <;> omega)
   obtain ⟨v40,v41,v42,h12,hF⟩:=AbK hF;refine AaO (Acq k _ _ _ _ _ _ h12) (by simp) [2] [] [2] rfl (.cons (.same (by simp)) (.cons (.same (by simp)) .nil)) (by simp) (by decide) (by simp) (by simp) (.inl rfl) (by simp) (by simp) ?_;refine TL trivial g r [] [] [2,3] [(2,.cells [Lb v41,AV.bool v42]),(3,.cells [Iz v3,Iz v6,AV.str v9,Iz v12,Iz v15,Iz v18,Iz v21,Iz v24,Lz v27,AV.slc 4 0 3 v33.length false,AV.str v34,Iz v37,AV.str v40])] 5 ?_;refine AW.seq fun K6 hK6=>?_;refine SR [] [none,none,none,none,none,none,some (109,false),some (109,false),some (109,false),some (109,false),some (109,false),some (109,false),none,none,some (117,false),some (117,false),some (117,false),none,none,some (122,false),some (122,false),some (122,false),none] fun _ _ g r=>?_;rcases IFo hF with ⟨h13,hF⟩|⟨h13,hF⟩
   ·have h13_:=h13;try simp at h13_
    refine TL (A2 h13 h13_) g r [4] [(126,.bool true)] [2] [] 5 ?_;refine CT (by simp [h13,h13_]) ?_;refine SW (A2 h13 h13_) [] N3 [0,5,126] [(3,Iz 1)] [0,1,3,4] [(0,AbE )] 5 ?_;refine AW.flg [] [(0,Acg )] trivial ⟨⟨(AbE ),by simp [h13,h13_],(.mk (.cons (.same _) (.cons (.same _) (.cons (.same _) (.cons (.same _) (.cons (.same _) (.cons (.same _) (.cons (.same _) (.cons (.same _) (.cons (.lst (by simp)) (.cons (.lst (by simp)) (.cons (.same _) (.cons (.same _) (.cons (.same _) .nil))))))))))))))⟩,trivial⟩ (by simp) ?_;simp only [Option.some.injEq,Prod.mk.injEq] at hF;obtain ⟨e0,e1⟩:=hF;subst e0 e1;exact AW.ret (hQ _ _ _ (by simp [Try.f60,h13,h13_]) (AaE (by simp [h13,h13_]))).1
   ·have h13_:=h13;try simp at h13_
    rcases IFo hF with ⟨h14,hF⟩|⟨h14,hF⟩
    ·have h14_:=h14;try simp at h14_
     have F6:=A4 h13 h13_ h14 h14_;refine TL F6 g r [4] [(126,.bool true)] [2] [] 5 ?_;refine CT (by simp [F6]) ?_;refine SW F6 [] N3 [0,5,126] [(3,Iz 1)] [0,1,3,4] [(0,AbE )] 5 ?_;refine AW.flg [] [(0,Acg )] trivial ⟨⟨(AbE ),by simp [F6],(.mk (.cons (.same _) (.cons (.same _) (.cons (.same _) (.cons (.same _) (.cons (.same _) (.cons (.same _) (.cons (.same _) (.cons (.same _) (.cons (.lst (by simp)) (.cons (.lst (by simp)) (.cons (.same _) (.cons (.same _) (.cons (.same _) .nil))))))))))))))⟩,trivial⟩ (by simp) ?_;simp only [Option.some.injEq,Prod.mk.injEq] at hF;obtain ⟨e0,e1⟩:=hF;subst e0 e1;exact AW.ret (hQ _ _ _ (by simp [Try.f60,F6]) (AaE (by simp [F6]))).1
    ·have h14_:=h14;try simp at h14_
     have F7:=A4 h13 h13_ h14 h14_;try simp [F7]
     and_intros
     try any_goals first | omega | (simp [maxLen,F7] <;> omega)
     obtain ⟨v43,h15,hF⟩:=AaG hF;refine AaO (Aex k _ _ _ _ _ _ _ _ _ _ _ _ _ _ h15) (by simp) [] [4] [] rfl (.cons (.agg (.cons (.same (by simp [F7])) (.cons (.same (by simp [F7])) (.cons (.same (by simp [F7])) (.cons (.same (by simp [F7])) (.cons (.same (by simp [F7])) (.cons (.same (by simp [F7])) (.cons (.same (by simp [F7])) (.cons (.same (by simp [F7])) (.cons (.same (by simp [F7])) (.cons (Coe.l (o := .grow (AaM (List.map AaD.av v33))) (by simp [F7]) rfl (by simp [F7]) (by simp [AcA]) (by simp [F7]) (by simp [F7])) (.cons (.same (by simp [F7])) (.cons (.same (by simp [F7])) (.cons (.same (by simp [F7])) .nil)))))))))))))) .nil) (by simp [F7]) (by decide) (by simp) (by simp) (.inr ⟨by simp,by simp⟩) (by simp) (by simp) ?_;rcases IFo hF with ⟨h16,hF⟩|⟨h16,hF⟩
     ·have h16_:=Aba h16;have h16__:=Abd h16;have F8:=A4 F7 h16 h16_ h16__;refine TL F8 g r [4] [(126,.bool true)] [2] [] 5 ?_;refine CT (by simp [F8]) ?_;refine SW F8 [] N3 [0,5,126] [(3,Iz 1)] [0,1,3,4] [(0,AbE )] 5 ?_;refine AW.flg [] [(0,Acg )] trivial ⟨⟨(AbE ),by simp [F8],(.mk (.cons (.same _) (.cons (.same _) (.cons (.same _) (.cons (.same _) (.cons (.same _) (.cons (.same _) (.cons (.same _) (.cons (.same _) (.cons (.lst (by simp)) (.cons (.lst (by simp)) (.cons (.same _) (.cons (.same _) (.cons (.same _) .nil))))))))))))))⟩,trivial⟩ (by simp) ?_;simp only [Option.some.injEq,Prod.mk.injEq] at hF;obtain ⟨e0,e1⟩:=hF;subst e0 e1;exact AW.ret (hQ _ _ _ (by simp [Try.f60,F8]) (AaE (by simp [F8]))).1
     ·have h16q : v43=0:=Classical.not_not.1 h16;have h16_:=Abf h16q;have h16__:=Abe h16q;have F9:=A4 F7 h16_ h16__ h16q;try simp [F9]
      and_intros
      try any_goals first | omega | (simp [maxLen,F9] <;> omega)
      obtain ⟨v44,h17,hF⟩:=AaG hF;refine AaO (Aec k _ _ _ _ _ _ _ _ _ _ _ _ _ _ h17) (by simp) [] [4] [] rfl (.cons (.agg (.cons (.same (by simp [F9])) (.cons (.same (by simp [F9])) (.cons (.same (by simp [F9])) (.cons (.same (by simp [F9])) (.cons (.same (by simp [F9])) (.cons (.same (by simp [F9])) (.cons (.same (by simp [F9])) (.cons (.same (by simp [F9])) (.cons (.same (by simp [F9])) (.cons (Coe.l (o := .grow (AaM (List.map AaD.av v33))) (by simp [F9]) rfl (by simp [F9]) (by simp [AcA]) (by simp [F9]) (by simp [F9])) (.cons (.same (by simp [F9])) (.cons (.same (by simp [F9])) (.cons (.same (by simp [F9])) .nil)))))))))))))) .nil) (by simp [F9]) (by decide) (by simp) (by simp) (.inr ⟨by simp,by simp⟩) (by simp) (by simp) ?_;refine TL F9 g r [4] [(126,.bool (!v44))] [2] [] 5 ?_;rcases IFo hF with ⟨h18,hF⟩|⟨h18,hF⟩
      ·have h18_:=h18;try simp at h18_
       have F10:=A3 F9 h18 h18_;refine CT (by simp [F10] <;> omega) ?_;refine SW F10 [] N3 [0,5,126] [(3,Iz 1)] [0,1,3,4] [(0,AbE )] 5 ?_;refine AW.flg [] [(0,Acg )] trivial ⟨⟨(AbE ),by simp [F10],(.mk (.cons (.same _) (.cons (.same _) (.cons (.same _) (.cons (.same _) (.cons (.same _) (.cons (.same _) (.cons (.same _) (.cons (.same _) (.cons (.lst (by simp)) (.cons (.lst (by simp)) (.cons (.same _) (.cons (.same _) (.cons (.same _) .nil))))))))))))))⟩,trivial⟩ (by simp) ?_;simp only [Option.some.injEq,Prod.mk.injEq] at hF;obtain ⟨e0,e1⟩:=hF;subst e0 e1;exact AW.ret (hQ _ _ _ (by simp [Try.f60,F10]) (AaE (by simp [F10]))).1
      ·have h18_:=h18;try simp at h18_
       have F11:=A3 F9 h18 h18_;refine CF (by simp [F11] <;> omega) ?_;refine AW.skip (hK6 _ _ _ ?_);refine AW.seq fun K7 hK7=>?_;refine SR [] N7 fun _ _ g r=>?_;try simp [F11]
       and_intros
       try any_goals first | omega | (simp [maxLen,F11] <;> omega)
       obtain ⟨v45,v46,h19,hF⟩:=Aaa hF;refine AaO (Aee k _ _ _ _ _ _ _ _ _ _ _ _ _ _ _ h19) (by simp) [] [4] [] rfl (.cons (.agg (.cons (.same (by simp [F11])) (.cons (.same (by simp [F11])) (.cons (.same (by simp [F11])) (.cons (.same (by simp [F11])) (.cons (.same (by simp [F11])) (.cons (.same (by simp [F11])) (.cons (.same (by simp [F11])) (.cons (.same (by simp [F11])) (.cons (.same (by simp [F11])) (.cons (Coe.l (o := .grow (AaM (List.map AaD.av v33))) (by simp [F11]) rfl (by simp [F11]) (by simp [AcA]) (by simp [F11]) (by simp [F11])) (.cons (.same (by simp [F11])) (.cons (.same (by simp [F11])) (.cons (.same (by simp [F11])) .nil)))))))))))))) .nil) (by simp [F11]) (by decide) (by simp) (by simp) (.inr ⟨by simp,by simp⟩) (by simp) (by simp) ?_;refine TL F11 g r [126] [(11,Sc 5 v45)] [] [(5,.grow (List.map (AV.int .u8) v45))] 6 ?_;refine AW.frz 5 (o := .grow (List.map (AV.int .u8) v45)) (by simp [F11]) rfl [(11,Lb v45)] [] ⟨(.l (by simp) (by simp) (by simp) (by simp)),trivial⟩ trivial ?_;refine WJ [(0,Lb v0),(2,.ptr 0 0),(5,.ptr 3 0),(11,Lb v45)] [(0,Ab5 ),(1,.grow (AaM (List.map AaD.av ([] : List AaD)))),(3,.cells [Iz v3,Iz v6,AV.str v9,Iz v12,Iz v15,Iz v18,Iz v21,Iz v24,Lz v27,AV.slc 4 0 3 v33.length false,AV.str v34,Iz v37,AV.str v40]),(4,.grow (AaM (List.map AaD.av v33)))] 6 (by simp [F11]) ?_;refine SW F11 [] N5 [0,11] [(137,.bool (!Abo (ofI v45) (ofI v0)))] [] [] 6 ?_;rcases IFo hF with ⟨h20,hF⟩|⟨h20,hF⟩
       ·have h20_:=h20;try simp at h20_
        have F12:=A3 F11 h20 h20_;refine CT (by simp [F12] <;> omega) ?_;refine SW F12 [] N3 [5,137] [(3,Iz 1)] [0,1,3,4] [(0,AbE )] 6 ?_;refine AW.flg [] [(0,Acg )] trivial ⟨⟨(AbE ),by simp [F12],(.mk (.cons (.same _) (.cons (.same _) (.cons (.same _) (.cons (.same _) (.cons (.same _) (.cons (.same _) (.cons (.same _) (.cons (.same _) (.cons (.lst (by simp)) (.cons (.lst (by simp)) (.cons (.same _) (.cons (.same _) (.cons (.same _) .nil))))))))))))))⟩,trivial⟩ (by simp) ?_;simp only [Option.some.injEq,Prod.mk.injEq] at hF;obtain ⟨e0,e1⟩:=hF;subst e0 e1;exact AW.ret (hQ _ _ _ (by simp [Try.f60,F12]) (AaE (by simp [F12]))).1
       ·have h20_:=h20;try simp at h20_
        have F13:=A3 F11 h20 h20_;refine CF (by simp [F13] <;> omega) ?_;refine AW.skip (hK7 _ _ _ ?_);refine SW F13 [] N3 [5,137] [(3,Iz 0)] [0,1,3] [(0,.cells [Iz v3,Iz v6,AV.str v9,Iz v12,Iz v15,Iz v18,Iz v21,Iz v24,Lz v27,AV.slc 4 0 3 v33.length false,AV.str v34,Iz v37,AV.str v40])] 6 ?_;refine WJ [(2,.ptr 0 0),(3,Iz 0)] [(0,.cells [Iz v3,Iz v6,AV.str v9,Iz v12,Iz v15,Iz v18,Iz v21,Iz v24,Lz v27,AV.slc 4 0 3 v33.length false,AV.str v34,Iz v37,AV.str v40]),(4,.grow (AaM (List.map AaD.av v33)))] 6 (by simp [F13]) ?_;refine AW.frz 4 (o := .grow (AaM (List.map AaD.av v33))) (by simp [F13]) rfl [] [(0,.cells [Iz v3,Iz v6,AV.str v9,Iz v12,Iz v15,Iz v18,Iz v21,Iz v24,Lz v27,Q0 v33,AV.str v34,Iz v37,AV.str v40])] trivial ⟨⟨by simp,Aan.cells [Iz v3,Iz v6,AV.str v9,Iz v12,Iz v15,Iz v18,Iz v21,Iz v24,Lz v27,AV.slc 4 0 3 v33.length false,AV.str v34,Iz v37,AV.str v40],by simp [F13],(.mk (.cons (.same _) (.cons (.same _) (.cons (.same _) (.cons (.same _) (.cons (.same _) (.cons (.same _) (.cons (.same _) (.cons (.same _) (.cons (.same _) (.cons (.l (by simp) (by simp) (by simp) (by simp)) (.cons (.same _) (.cons (.same _) (.cons (.same _) .nil))))))))))))))⟩,trivial⟩ ?_;simp only [Option.some.injEq,Prod.mk.injEq] at hF;obtain ⟨e0,e1⟩:=hF;subst e0 e1;exact AW.ret (hQ _ _ _ (by simp [Try.f60,F13]) (AaE (by simp [F13]))).1
theorem Ag6 (k : Nat) (v0 v1 : (List Int)) (v2 : Bool) (hF : AbD k v0 v1=some v2) :
 AbP Try.prog 100 [AV.lst false false (List.map (AV.int .i64) v0),AV.lst false false (List.map (AV.int .i64) v1)] [] (AV.bool v2) []:=by
 unfold AbD at hF;refine EN Try.func100 ?_;intro c0 w0 Q h0 hQ
 refine WJ [(0,Lz v0),(1,Lz v1)] [] 0 (by simp) ?_;refine SW trivial [] [none] [] [] [] [] 0 ?_;refine AW.seq fun K0 hK0=>?_;refine SW trivial [] N5 [] [(10,.bool ((v0.length : Int) !=(v1.length : Int)))] [] [] 0 ?_;rcases IFo hF with ⟨h1,hF⟩|⟨h1,hF⟩
 ·have h1_:=Aba h1;have h1__:=Abd h1;have F1:=A3 h1 h1_ h1__;refine CT (by simp [F1] <;> omega) ?_;refine SW F1 [] [none] [0,1,10] [(4,.bool false)] [] [] 0 ?_;cases hF;exact AW.ret (hQ _ _ _ (by simp [Try.f100,F1]) (AaE (by simp [F1]))).1
 ·have h1q : (v0.length : Int)=(v1.length : Int):=Classical.not_not.1 h1;have h1_:=Abf h1q;have h1__:=Abe h1q;refine CF (by simp [h1_,h1__] <;> omega) ?_;refine AW.skip (hK0 _ _ _ ?_);refine AW.seq fun K1 hK1=>?_;refine SW (A2 h1_ h1__) [] [none] [10] [(5,Iz 0)] [] [] 0 ?_;refine AW.block ?_;refine AW.loopF (α:=Int) (fun n v3=>AbD.L1 k v0 v1 n v3=some v2) (fun v3=>[(0,Lz v0),(1,Lz v1),(5,Iz v3)]) (fun v3=>[]) 0 k (0) hF (by simp [h1_,h1__]) (by simp [h1_,h1__]) (by simp) ?_;rintro (_|n1) v3 hF K2 hK2
  ·try dsimp only at hF
   rw [AbD.L1] at hF; cases hF
  try dsimp only at hF
  rw [AbD.L1] at hF;refine AW.seq fun K3 hK3=>?_;refine SW (A2 h1_ h1__) [] N4 [] [(14,.bool (decide (v3<(v0.length : Int))))] [] [] 0 ?_;rcases IFo hF with ⟨h2,hF⟩|⟨h2,hF⟩
  ·have h2_:=h2;try simp at h2_
   have F2:=A4 h1_ h1__ h2 h2_;refine CT (by simp [F2] <;> omega) ?_;refine AW.skip (hK3 _ _ _ ?_);refine AW.seq fun K4 hK4=>?_;refine AW.block ?_;refine SR [] N9 fun _ _ g r=>?_;obtain ⟨v4,h3,h4,h5,hF⟩:=Aai hF;have h5_:=AbA h5;try simp at h5_
   have h4_:=h4;try simp at h4_
   obtain ⟨v5,h6,h7,h8,hF⟩:=Aai hF;have h8_:=AbA h8;try simp at h8_
   have h7_:=h7;try simp at h7_
   have F3:=A9 F2 h3 h4 h5 h5_ h4_ h6 h7 (A3 h8 h8_ h7_);refine TL F3 g r [] [(25,.bool (v4 !=v5))] [] [] 0 ?_;rcases IFo hF with ⟨h9,hF⟩|⟨h9,hF⟩
   ·have h9_:=Aba h9;have h9__:=Abd h9;have F4:=A4 F3 h9 h9_ h9__;refine CT (by simp [F4] <;> omega) ?_;refine SW F4 [] [none] [0,1,5,25] [(4,.bool false)] [] [] 0 ?_;cases hF;exact AW.ret (hQ _ _ _ (by simp [Try.f100,F4]) (AaE (by simp [F4]))).1
   ·have h9q : v4=v5:=Classical.not_not.1 h9;have h9_:=Abf h9q;have h9__:=Abe h9q;have F5:=A3 F3 h9_ h9__;refine CF (by simp [F5] <;> omega) ?_;refine AW.skip (hK4 _ _ _ ?_);refine RG [] N3 fun _ _ g r=>?_;try simp [F5]
    and_intros <;> first | exact GK g | apply r | omega | (simp [maxLen,F5] <;> omega)
    refine hK2 _ _ _ ?_;exact NX (k':=n1) (IntKind.wrap .i64 (v3+1)) hF (by simp [F5]) (by simp [F5])
  ·have h2_:=h2;try simp at h2_
   have F6:=A4 h1_ h1__ h2 h2_;refine CF (by simp [F6] <;> omega) ?_;refine AW.exit ?_;try simp
   refine hK1 _ _ _ ?_;refine SW F6 [] [none] [0,1,5] [(4,.bool true)] [] [] 0 ?_;cases hF;exact AW.ret (hQ _ _ _ (by simp [Try.f100,F6]) (AaE (by simp [F6]))).1
theorem Ag5 (k : Nat) (v0 v1 : (List AaD)) (v2 : Bool) (hF : AbC k v0 v1=some v2) :
 AbP Try.prog 101 [Q0 v0,Q0 v1] [] (AV.bool v2) []:=by
 unfold AbC at hF;refine EN Try.func101 ?_;intro c0 w0 Q h0 hQ
 refine WJ [(0,Q0 v0),(1,Q0 v1)] [] 0 (by simp) ?_;refine SW trivial [] [none] [] [] [] [] 0 ?_;refine AW.seq fun K0 hK0=>?_;refine SW trivial [] N5 [] [(10,.bool ((v0.length : Int) !=(v1.length : Int)))] [] [] 0 ?_;rcases IFo hF with ⟨h1,hF⟩|⟨h1,hF⟩
 ·have h1_:=Aba h1;have h1__:=Abd h1;have F1:=A3 h1 h1_ h1__;refine CT (by simp [F1] <;> omega) ?_;refine SW F1 [] [none] [0,1,10] [(4,.bool false)] [] [] 0 ?_;cases hF;exact AW.ret (hQ _ _ _ (by simp [Try.f101,F1]) (AaE (by simp [F1]))).1
 ·have h1q : (v0.length : Int)=(v1.length : Int):=Classical.not_not.1 h1;have h1_:=Abf h1q;have h1__:=Abe h1q;refine CF (by simp [h1_,h1__] <;> omega) ?_;refine AW.skip (hK0 _ _ _ ?_);refine AW.seq fun K1 hK1=>?_;refine SW (A2 h1_ h1__) [] [none] [10] [(5,Iz 0)] [] [] 0 ?_;refine AW.block ?_;refine AW.loopF (α:=Int) (fun n v3=>AbC.L1 k v0 v1 n v3=some v2) (fun v3=>[(0,Q0 v0),(1,Q0 v1),(5,Iz v3)]) (fun v3=>[]) 0 k (0) hF (by simp [h1_,h1__]) (by simp [h1_,h1__]) (by simp) ?_;rintro (_|n1) v3 hF K2 hK2
  ·try dsimp only at hF
   rw [AbC.L1] at hF; cases hF
  try dsimp only at hF
  rw [AbC.L1] at hF;refine AW.seq fun K3 hK3=>?_;refine SW (A2 h1_ h1__) [] N4 [] [(14,.bool (decide (v3<(v0.length : Int))))] [] [] 0 ?_;rcases IFo hF with ⟨h2,hF⟩|⟨h2,hF⟩
  ·have h2_:=h2;try simp at h2_
   have F2:=A4 h1_ h1__ h2 h2_;refine CT (by simp [F2] <;> omega) ?_;refine AW.skip (hK3 _ _ _ ?_);refine AW.seq fun K4 hK4=>?_;refine AW.block ?_;refine SR [] N9 fun _ _ g r=>?_;obtain ⟨v4,h3,h4,h5,hF⟩:=Aai hF;have h5_:=AbA h5;try simp at h5_
   have h4_:=h4;try simp at h4_
   obtain ⟨v5,h6,h7,h8,hF⟩:=Aai hF;have h8_:=AbA h8;try simp at h8_
   have h7_:=h7;try simp at h7_
   obtain ⟨v6,h9,hF⟩:=AeJ hF;have h9_:=h9;try simp at h9_
   have F3:=A9 F2 h3 h4 h5 h5_ h4_ h6 h7 (A5 h8 h8_ h7_ h9 h9_);refine TL F3 g r [] [(25,.bool (!v6))] [] [] 0 ?_;rcases IFo hF with ⟨h10,hF⟩|⟨h10,hF⟩
   ·have h10_:=h10;try simp at h10_
    have F4:=A3 F3 h10 h10_;refine CT (by simp [F4] <;> omega) ?_;refine SW F4 [] [none] [0,1,5,25] [(4,.bool false)] [] [] 0 ?_;cases hF;exact AW.ret (hQ _ _ _ (by simp [Try.f101,F4]) (AaE (by simp [F4]))).1
   ·have h10_:=h10;try simp at h10_
    have F5:=A3 F3 h10 h10_;refine CF (by simp [F5] <;> omega) ?_;refine AW.skip (hK4 _ _ _ ?_);refine RG [] N3 fun _ _ g r=>?_;try simp [F5]
    and_intros <;> first | exact GK g | apply r | omega | (simp [maxLen,F5] <;> omega)
    refine hK2 _ _ _ ?_;exact NX (k':=n1) (IntKind.wrap .i64 (v3+1)) hF (by simp [F5]) (by simp [F5])
  ·have h2_:=h2;try simp at h2_
   have F6:=A4 h1_ h1__ h2 h2_;refine CF (by simp [F6] <;> omega) ?_;refine AW.exit ?_;try simp
   refine hK1 _ _ _ ?_;refine SW F6 [] [none] [0,1,5] [(4,.bool true)] [] [] 0 ?_;cases hF;exact AW.ret (hQ _ _ _ (by simp [Try.f101,F6]) (AaE (by simp [F6]))).1
theorem AfL (k : Nat) (v0 v1 : Int) (v2 : ByteArray) (v3 v4 v5 v6 v7 : Int) (v8 : (List Int)) (v9 : (List AaD)) (v10 : ByteArray) (v11 : Int) (v12 : ByteArray) (v13 v14 : Int) (v15 : ByteArray) (v16 v17 v18 v19 v20 : Int) (v21 : (List Int)) (v22 : (List AaD)) (v23 : ByteArray) (v24 : Int) (v25 : ByteArray) (v26 : Bool) (hF : Acf k v0 v1 v2 v3 v4 v5 v6 v7 v8 v9 v10 v11 v12 v13 v14 v15 v16 v17 v18 v19 v20 v21 v22 v23 v24 v25=some v26) :
 AbP Try.prog 59 [AV.agg [AV.int .i64 v0,AV.int .i64 v1,AV.str v2,AV.int .i64 v3,AV.int .i64 v4,AV.int .i64 v5,AV.int .i64 v6,AV.int .i64 v7,AV.lst false false (List.map (AV.int .i64) v8),Q0 v9,AV.str v10,AV.int .i64 v11,AV.str v12],AV.agg [AV.int .i64 v13,AV.int .i64 v14,AV.str v15,AV.int .i64 v16,AV.int .i64 v17,AV.int .i64 v18,AV.int .i64 v19,AV.int .i64 v20,AV.lst false false (List.map (AV.int .i64) v21),Q0 v22,AV.str v23,AV.int .i64 v24,AV.str v25]] [] (AV.bool v26) []:=by
 unfold Acf at hF;refine EN Try.func59 ?_;intro c0 w0 Q h0 hQ
 refine WJ [(0,.agg [Iz v0,Iz v1,AV.str v2,Iz v3,Iz v4,Iz v5,Iz v6,Iz v7,Lz v8,Q0 v9,AV.str v10,Iz v11,AV.str v12]),(1,.agg [Iz v13,Iz v14,AV.str v15,Iz v16,Iz v17,Iz v18,Iz v19,Iz v20,Lz v21,Q0 v22,AV.str v23,Iz v24,AV.str v25])] [] 0 (by simp) ?_;refine SW trivial [] N3 [0,1] [(2,.ptr 0 0),(3,.ptr 1 0)] [] [(0,.cells [Iz v0,Iz v1,AV.str v2,Iz v3,Iz v4,Iz v5,Iz v6,Iz v7,Lz v8,Q0 v9,AV.str v10,Iz v11,AV.str v12]),(1,.cells [Iz v13,Iz v14,AV.str v15,Iz v16,Iz v17,Iz v18,Iz v19,Iz v20,Lz v21,Q0 v22,AV.str v23,Iz v24,AV.str v25])] 2 ?_;refine SR [] [none,none,none,none,none,none,some (10,true),some (10,true),some (10,true),some (10,true),some (10,true),none,none,some (17,true),some (17,true),some (17,true),some (17,true),some (17,true),none,none,some (24,true),some (24,true),some (24,true),some (24,true),some (24,true),none,none,some (31,true),some (31,true),some (31,true),some (31,true),some (31,true),none,none,some (38,true),some (38,true),some (38,true),some (38,true),some (38,true),none,none,some (45,true),some (45,true),some (45,true),some (45,true),some (45,true),none,none,some (52,true),some (52,true),some (52,true),some (52,true),some (52,true),none,none,some (59,true),some (59,true),some (59,true),some (59,true),some (59,true),none,none,some (66,true),some (66,true),some (66,true),some (66,true),some (66,true),none,none,some (73,true),some (73,true),some (73,true),some (73,true),some (73,true),none,none,some (80,true),some (80,true),some (80,true),some (80,true),some (80,true),none,none] fun _ _ g r=>?_;rcases IFo hF with ⟨h1,hF⟩|⟨h1,hF⟩
 ·have h1q : v0=v13:=h1;have h1_:=Abf h1q;have h1__:=Abe h1q;rcases IFo hF with ⟨h2,hF⟩|⟨h2,hF⟩
  ·have h2q : v1=v14:=h2;have h2_:=Abf h2q;have h2__:=Abe h2q;rcases IFo hF with ⟨h3,hF⟩|⟨h3,hF⟩
   ·have h3_:=h3;try simp at h3_
    rcases IFo hF with ⟨h4,hF⟩|⟨h4,hF⟩
    ·have h4q : v3=v16:=h4;have h4_:=Abf h4q;have h4__:=Abe h4q;rcases IFo hF with ⟨h5,hF⟩|⟨h5,hF⟩
     ·have h5q : v4=v17:=h5;have h5_:=Abf h5q;have h5__:=Abe h5q;rcases IFo hF with ⟨h6,hF⟩|⟨h6,hF⟩
      ·have h6q : v5=v18:=h6;have h6_:=Abf h6q;have h6__:=Abe h6q;rcases IFo hF with ⟨h7,hF⟩|⟨h7,hF⟩
       ·have h7q : v6=v19:=h7;have h7_:=Abf h7q;have h7__:=Abe h7q;rcases IFo hF with ⟨h8,hF⟩|⟨h8,hF⟩
        ·have h8q : v7=v20:=h8;have h8_:=Abf h8q;have h8__:=Abe h8q;have F1:=A9 h1_ h1__ h2_ h2__ h3 h3_ h4_ h4__ (A8 h5_ h5__ h6_ h6__ h7_ h7__ h8_ h8__);try simp [F1]
         and_intros
         try any_goals first | omega | (simp [maxLen,F1] <;> omega)
         obtain ⟨v27,h9,hF⟩:=AaG hF;refine AC (Ag6 k _ _ _ h9) (.cons (.same (by simp [F1])) (.cons (.same (by simp [F1])) .nil)) ?_;rcases IFo hF with ⟨h10,hF⟩|⟨h10,hF⟩
         ·have h10_:=h10;try simp at h10_
          have F2:=A3 F1 h10 h10_;try simp [F2]
          and_intros
          try any_goals first | omega | (simp [maxLen,F2] <;> omega)
          obtain ⟨v28,h11,hF⟩:=AaG hF;refine AC (Ag5 k _ _ _ h11) (.cons (.same (by simp [F2])) (.cons (.same (by simp [F2])) .nil)) ?_;rcases IFo hF with ⟨h12,hF⟩|⟨h12,hF⟩
          ·have h12_:=h12;try simp at h12_
           rcases IFo hF with ⟨h13,hF⟩|⟨h13,hF⟩
           ·have h13_:=h13;try simp at h13_
            obtain ⟨v29,h14,hF⟩:=AeJ hF;have h14_:=h14;try simp at h14_
            have F3:=A7 F2 h12 h12_ h13 h13_ h14 h14_;refine TL F3 g r [2,3] [(4,.bool v29)] [0,1] [] 2 ?_;cases hF;exact AW.ret (hQ _ _ _ (by simp [Try.f59,F3]) (AaE (by simp [F3]))).1
           ·have h13_:=h13;try simp at h13_
            have F4:=A5 F2 h12 h12_ h13 h13_;refine TL F4 g r [2,3] [(4,.bool false)] [0,1] [] 2 ?_;cases hF;exact AW.ret (hQ _ _ _ (by simp [Try.f59,F4]) (AaE (by simp [F4]))).1
          ·have h12_:=h12;try simp at h12_
           have F5:=A3 F2 h12 h12_;refine TL F5 g r [2,3] [(4,.bool false)] [0,1] [] 2 ?_;cases hF;exact AW.ret (hQ _ _ _ (by simp [Try.f59,F5]) (AaE (by simp [F5]))).1
         ·have h10_:=h10;try simp at h10_
          have F6:=A3 F1 h10 h10_;refine TL F6 g r [2,3] [(4,.bool false)] [0,1] [] 2 ?_;cases hF;exact AW.ret (hQ _ _ _ (by simp [Try.f59,F6]) (AaE (by simp [F6]))).1
        ·have h8_:=Aba h8;have h8__:=Abd h8;have F7:=A9 h1_ h1__ h2_ h2__ h3 h3_ h4_ h4__ (A9 h5_ h5__ h6_ h6__ h7_ h7__ h8 h8_ h8__);refine TL F7 g r [2,3] [(4,.bool false)] [0,1] [] 2 ?_;cases hF;exact AW.ret (hQ _ _ _ (by simp [Try.f59,F7]) (AaE (by simp [F7]))).1
       ·have h7_:=Aba h7;have h7__:=Abd h7;have F8:=A9 h1_ h1__ h2_ h2__ h3 h3_ h4_ h4__ (A7 h5_ h5__ h6_ h6__ h7 h7_ h7__);refine TL F8 g r [2,3] [(4,.bool false)] [0,1] [] 2 ?_;cases hF;exact AW.ret (hQ _ _ _ (by simp [Try.f59,F8]) (AaE (by simp [F8]))).1
      ·have h6_:=Aba h6;have h6__:=Abd h6;have F9:=A9 h1_ h1__ h2_ h2__ h3 h3_ h4_ h4__ (A5 h5_ h5__ h6 h6_ h6__);refine TL F9 g r [2,3] [(4,.bool false)] [0,1] [] 2 ?_;cases hF;exact AW.ret (hQ _ _ _ (by simp [Try.f59,F9]) (AaE (by simp [F9]))).1
     ·have h5_:=Aba h5;have h5__:=Abd h5;have F10:=A9 h1_ h1__ h2_ h2__ h3 h3_ h4_ h4__ (A3 h5 h5_ h5__);refine TL F10 g r [2,3] [(4,.bool false)] [0,1] [] 2 ?_;cases hF;exact AW.ret (hQ _ _ _ (by simp [Try.f59,F10]) (AaE (by simp [F10]))).1
    ·have h4_:=Aba h4;have h4__:=Abd h4;have F11:=A9 h1_ h1__ h2_ h2__ h3 h3_ h4 h4_ h4__;refine TL F11 g r [2,3] [(4,.bool false)] [0,1] [] 2 ?_;cases hF;exact AW.ret (hQ _ _ _ (by simp [Try.f59,F11]) (AaE (by simp [F11]))).1
   ·have h3_:=h3;try simp at h3_
    have F12:=A6 h1_ h1__ h2_ h2__ h3 h3_;refine TL F12 g r [2,3] [(4,.bool false)] [0,1] [] 2 ?_;cases hF;exact AW.ret (hQ _ _ _ (by simp [Try.f59,F12]) (AaE (by simp [F12]))).1
  ·have h2_:=Aba h2;have h2__:=Abd h2;have F13:=A5 h1_ h1__ h2 h2_ h2__;refine TL F13 g r [2,3] [(4,.bool false)] [0,1] [] 2 ?_;cases hF;exact AW.ret (hQ _ _ _ (by simp [Try.f59,F13]) (AaE (by simp [F13]))).1
 ·have h1_:=Aba h1;have h1__:=Abd h1;have F14:=A3 h1 h1_ h1__;refine TL F14 g r [2,3] [(4,.bool false)] [0,1] [] 2 ?_;cases hF;exact AW.ret (hQ _ _ _ (by simp [Try.f59,F14]) (AaE (by simp [F14]))).1
theorem Ac1 (k : Nat) (v0 : (List Int)) (v1 : Bool) (hF : AdQ k v0=some v1) :
 AbP Try.prog 22 [AV.lst false false (List.map (AV.int .u8) v0)] [] (AV.bool v1) []:=by
 unfold AdQ at hF;refine EN Try.func22 ?_;intro c0 w0 Q h0 hQ
 refine WJ [(0,Lb v0)] [] 0 (by simp) ?_;refine SW trivial [] [none] [] [] [] [] 0 ?_;obtain ⟨v2,v3,h1,hF⟩:=Aaa hF;refine CL trivial [] N8 (AeQ k _ _ _ h1) [] [(3,.ptr 0 0),(4,Iz v3)] [] [(0,.cells [Iz v2.Author,Iz v2.Number,AV.str v2.Prev,Iz v2.Time,Iz v2.Kind,Iz v2.A,Iz v2.B,Iz v2.C,AV.lst false false (List.map (AV.int .i64) v2.Lst),Q0 v2.Pins,AV.str v2.Body,Iz v2.Seal_Key,AV.str v2.Seal_Digest])] 1 ?_;obtain ⟨v4,v5,h2,hF⟩:=Aaa hF;refine CL trivial [] N8 (Ah3 k _ _ _ h2) [0] [(5,.ptr 1 0),(6,Iz v5)] [] [(1,.cells [Iz v4.Author,Iz v4.Number,AV.str v4.Prev,Iz v4.Time,Iz v4.Kind,Iz v4.A,Iz v4.B,Iz v4.C,AV.lst false false (List.map (AV.int .i64) v4.Lst),Q0 v4.Pins,AV.str v4.Body,Iz v4.Seal_Key,AV.str v4.Seal_Digest])] 2 ?_;refine SR [] [none,none,none,none,some (20,true),some (20,true),some (20,true),none,none] fun _ _ g r=>?_;rcases IFo hF with ⟨h3,hF⟩|⟨h3,hF⟩
 ·have h3q : v3=v5:=h3;have h3_:=Abf h3q;have h3__:=Abe h3q;try simp [h3_,h3__]
  and_intros
  try any_goals first | omega | (simp [h3_,h3__,maxLen] <;> omega)
  obtain ⟨v6,h4,hF⟩:=AaG hF;refine AC (AfL k _ _ _ _ _ _ _ _ _ _ _ _ _ _ _ _ _ _ _ _ _ _ _ _ _ _ _ h4) (.cons (.same (by simp [h3_,h3__])) (.cons (.same (by simp [h3_,h3__])) .nil)) ?_;refine TL (A2 h3_ h3__) g r [3,4,5,6] [(2,.bool v6)] [0,1] [] 2 ?_;cases hF;exact AW.ret (hQ _ _ _ (by simp [Try.f22,h3_,h3__]) (AaE (by simp [h3_,h3__]))).1
 ·have h3_:=Aba h3;have h3__:=Abd h3;have F1:=A3 h3 h3_ h3__;refine TL F1 g r [3,4,5,6] [(2,.bool false)] [0,1] [] 2 ?_;cases hF;exact AW.ret (hQ _ _ _ (by simp [Try.f22,F1]) (AaE (by simp [F1]))).1
abbrev Ae4 (v0 v1 : Int) (v2 : ByteArray) (v3 v4 v5 v6 v7 : Int) (v8 : (List Int)) (v9 : (List AaD)) (v10 : ByteArray) (v11 : Int) (v12 : ByteArray) : Aan := .cells [Iz v0,Iz v1,AV.str v2,Iz v3,Iz v4,Iz v5,Iz v6,Iz v7,Lz v8,Q0 v9,AV.str v10,Iz v11,AV.str v12]
abbrev Aeh (v13 v14 : Int) (v15 : ByteArray) (v16 v17 v18 v19 v20 : Int) (v21 : (List Int)) (v22 : (List AaD)) (v23 : ByteArray) (v24 : Int) (v25 : ByteArray) : Aan := .cells [Iz v13,Iz v14,AV.str v15,Iz v16,Iz v17,Iz v18,Iz v19,Iz v20,Lz v21,Q0 v22,AV.str v23,Iz v24,AV.str v25]
theorem Ae0 (k : Nat) (v0 v1 : Int) (v2 : ByteArray) (v3 v4 v5 v6 v7 : Int) (v8 : (List Int)) (v9 : (List AaD)) (v10 : ByteArray) (v11 : Int) (v12 : ByteArray) (v13 v14 : Int) (v15 : ByteArray) (v16 v17 v18 v19 v20 : Int) (v21 : (List Int)) (v22 : (List AaD)) (v23 : ByteArray) (v24 : Int) (v25 : ByteArray) (v26 : Bool) (hF : AdK k v0 v1 v2 v3 v4 v5 v6 v7 v8 v9 v10 v11 v12 v13 v14 v15 v16 v17 v18 v19 v20 v21 v22 v23 v24 v25=some v26) :
 AbP Try.prog 20 [AV.agg [AV.int .i64 v0,AV.int .i64 v1,AV.str v2,AV.int .i64 v3,AV.int .i64 v4,AV.int .i64 v5,AV.int .i64 v6,AV.int .i64 v7,AV.lst false false (List.map (AV.int .i64) v8),Q0 v9,AV.str v10,AV.int .i64 v11,AV.str v12],AV.agg [AV.int .i64 v13,AV.int .i64 v14,AV.str v15,AV.int .i64 v16,AV.int .i64 v17,AV.int .i64 v18,AV.int .i64 v19,AV.int .i64 v20,AV.lst false false (List.map (AV.int .i64) v21),Q0 v22,AV.str v23,AV.int .i64 v24,AV.str v25]] [] (AV.bool v26) []:=by
 unfold AdK at hF;refine EN Try.func20 ?_;intro c0 w0 Q h0 hQ
 refine WJ [(0,.agg [Iz v0,Iz v1,AV.str v2,Iz v3,Iz v4,Iz v5,Iz v6,Iz v7,Lz v8,Q0 v9,AV.str v10,Iz v11,AV.str v12]),(1,.agg [Iz v13,Iz v14,AV.str v15,Iz v16,Iz v17,Iz v18,Iz v19,Iz v20,Lz v21,Q0 v22,AV.str v23,Iz v24,AV.str v25])] [] 0 (by simp) ?_;refine SW trivial [] N3 [0,1] [(2,.ptr 0 0),(3,.ptr 1 0)] [] [(0,Ae4 v0 v1 v2 v3 v4 v5 v6 v7 v8 v9 v10 v11 v12),(1,Aeh v13 v14 v15 v16 v17 v18 v19 v20 v21 v22 v23 v24 v25)] 2 ?_;obtain ⟨v27,v28,h1,hF⟩:=Aaa hF;refine CL trivial [] N7 (AeP k _ _ _ _ _ _ _ _ _ _ _ _ _ _ _ h1) [] [(5,Sc 2 v27),(6,Iz v28)] [] [(2,.grow (List.map (AV.int .u8) v27))] 3 ?_;refine AW.frz 2 (o := .grow (List.map (AV.int .u8) v27)) (by simp) rfl [(5,Lb v27)] [] ⟨(.l (by simp) (by simp) (by simp) (by simp)),trivial⟩ trivial ?_;refine WJ [(2,.ptr 0 0),(3,.ptr 1 0),(5,Lb v27),(6,Iz v28)] [(0,Ae4 v0 v1 v2 v3 v4 v5 v6 v7 v8 v9 v10 v11 v12),(1,Aeh v13 v14 v15 v16 v17 v18 v19 v20 v21 v22 v23 v24 v25)] 3 (by simp) ?_;obtain ⟨v29,v30,h2,hF⟩:=Aaa hF;refine CL trivial [] N7 (Aee k _ _ _ _ _ _ _ _ _ _ _ _ _ _ _ h2) [] [(7,Sc 3 v29),(8,Iz v30)] [] [(3,.grow (List.map (AV.int .u8) v29))] 4 ?_;refine AW.frz 3 (o := .grow (List.map (AV.int .u8) v29)) (by simp) rfl [(7,Lb v29)] [] ⟨(.l (by simp) (by simp) (by simp) (by simp)),trivial⟩ trivial ?_;refine WJ [(2,.ptr 0 0),(3,.ptr 1 0),(5,Lb v27),(6,Iz v28),(7,Lb v29),(8,Iz v30)] [(0,Ae4 v0 v1 v2 v3 v4 v5 v6 v7 v8 v9 v10 v11 v12),(1,Aeh v13 v14 v15 v16 v17 v18 v19 v20 v21 v22 v23 v24 v25)] 4 (by simp) ?_;refine SR [] [none,none,none,none,none,none,some (24,true),some (24,true),some (24,true),some (24,true),some (24,true),some (24,true),some (24,true),none,none,some (33,true),some (33,true),some (33,true),some (33,true),some (33,true),none,none,some (40,true),some (40,true),some (40,true),some (40,true),some (40,true),none,none,some (47,true),some (47,true),some (47,true),some (47,true),some (47,true),none,none,some (54,true),some (54,true),some (54,true),none,none,some (59,true),some (59,true),some (59,true),some (59,true),some (59,true),none,none,some (66,true),some (66,true),some (66,true),some (66,true),some (66,true),some (66,true),some (66,true),none,none,some (75,true),some (75,true),some (75,true),none,none] fun _ _ g r=>?_;try simp
 and_intros
 try any_goals first | omega | (simp [maxLen] <;> omega)
 obtain ⟨v31,h3,hF⟩:=AaG hF;refine AC (Acd k _ _ _ _ _ _ _ _ _ _ _ _ _ _ h3) (.cons (.same (by simp)) .nil) ?_;try simp
 and_intros
 try any_goals first | omega | (simp [maxLen] <;> omega)
 obtain ⟨v32,h4,hF⟩:=AaG hF;refine AC (Aex k _ _ _ _ _ _ _ _ _ _ _ _ _ _ h4) (.cons (.same (by simp)) .nil) ?_;rcases IFo hF with ⟨h5,hF⟩|⟨h5,hF⟩
 ·have h5q : v31=v32:=h5;have h5_:=Abf h5q;have h5__:=Abe h5q;try simp [h5_,h5__]
  and_intros
  try any_goals first | omega | (simp [h5_,h5__,maxLen] <;> omega)
  obtain ⟨v33,h6,hF⟩:=AaG hF;refine AC (Adc k _ _ _ _ _ _ _ _ _ _ _ _ _ _ h6) (.cons (.same (by simp [h5_,h5__])) .nil) ?_;try simp [h5_,h5__]
  and_intros
  try any_goals first | omega | (simp [h5_,h5__,maxLen] <;> omega)
  obtain ⟨v34,h7,hF⟩:=AaG hF;refine AC (Aey k _ _ _ _ _ _ _ _ _ _ _ _ _ _ h7) (.cons (.same (by simp [h5_,h5__])) .nil) ?_;rcases IFo hF with ⟨h8,hF⟩|⟨h8,hF⟩
  ·have h8_:=h8;try simp at h8_
   have F1:=A4 h5_ h5__ h8 h8_;try simp [F1]
   and_intros
   try any_goals first | omega | (simp [maxLen,F1] <;> omega)
   obtain ⟨v35,h9,hF⟩:=AaG hF;refine AC (Acz k _ _ _ _ _ _ _ _ _ _ _ _ _ _ h9) (.cons (.same (by simp [F1])) .nil) ?_;try simp [F1]
   and_intros
   try any_goals first | omega | (simp [maxLen,F1] <;> omega)
   obtain ⟨v36,h10,hF⟩:=AaG hF;refine AC (Ado k _ _ _ _ _ _ _ _ _ _ _ _ _ _ h10) (.cons (.same (by simp [F1])) .nil) ?_;rcases IFo hF with ⟨h11,hF⟩|⟨h11,hF⟩
   ·have h11_:=h11;try simp at h11_
    have F2:=A3 F1 h11 h11_;try simp [F2]
    and_intros
    try any_goals first | omega | (simp [maxLen,F2] <;> omega)
    obtain ⟨v37,h12,hF⟩:=AaG hF;refine AC (AcR k _ _ _ _ _ _ _ _ _ _ _ _ _ _ h12) (.cons (.same (by simp [F2])) .nil) ?_;try simp [F2]
    and_intros
    try any_goals first | omega | (simp [maxLen,F2] <;> omega)
    obtain ⟨v38,h13,hF⟩:=AaG hF;refine AC (Aec k _ _ _ _ _ _ _ _ _ _ _ _ _ _ h13) (.cons (.same (by simp [F2])) .nil) ?_;rcases IFo hF with ⟨h14,hF⟩|⟨h14,hF⟩
    ·have h14_:=h14;try simp at h14_
     have F3:=A3 F2 h14 h14_;try simp [F3]
     and_intros
     try any_goals first | omega | (simp [maxLen,F3] <;> omega)
     obtain ⟨v39,h15,hF⟩:=AaG hF;refine AC (Ae6 k _ _ _ _ _ _ _ _ _ _ _ _ _ _ h15) (.cons (.same (by simp [F3])) .nil) ?_;try simp [F3]
     and_intros
     try any_goals first | omega | (simp [maxLen,F3] <;> omega)
     obtain ⟨v40,h16,hF⟩:=AaG hF;refine AC (AjR k _ _ _ _ _ _ _ _ _ _ _ _ _ _ h16) (.cons (.same (by simp [F3])) .nil) ?_;try simp [F3]
     and_intros
     try any_goals first | omega | (simp [maxLen,F3] <;> omega)
     obtain ⟨v41,h17,hF⟩:=AaG hF;refine AC (AfL k _ _ _ _ _ _ _ _ _ _ _ _ _ _ _ _ _ _ _ _ _ _ _ _ _ _ _ h17) (.cons (.same (by simp [F3])) (.cons (.same (by simp [F3])) .nil)) ?_;rcases IFo hF with ⟨h18,hF⟩|⟨h18,hF⟩
     ·have h18_:=h18;try simp at h18_
      rcases IFo hF with ⟨h19,hF⟩|⟨h19,hF⟩
      ·have h19q : v28=v30:=h19;have h19_:=Abf h19q;have h19__:=Abe h19q;rcases IFo hF with ⟨h20,hF⟩|⟨h20,hF⟩
       ·have h20_:=h20;try simp at h20_
        have F4:=A7 F3 h18 h18_ h19_ h19__ h20 h20_;try simp [F4]
        and_intros
        try any_goals first | omega | (simp [maxLen,F4] <;> omega)
        obtain ⟨v42,h21,hF⟩:=AaG hF;refine AC (AdI k _ _ _ _ _ _ _ _ _ _ _ _ _ _ _ _ _ _ _ _ _ _ _ _ _ _ _ h21) (.cons (.same (by simp [F4])) (.cons (.same (by simp [F4])) .nil)) ?_;try simp [F4]
        and_intros
        try any_goals first | omega | (simp [maxLen,F4] <;> omega)
        obtain ⟨v43,h22,hF⟩:=AaG hF;refine AC (AfL k _ _ _ _ _ _ _ _ _ _ _ _ _ _ _ _ _ _ _ _ _ _ _ _ _ _ _ h22) (.cons (.same (by simp [F4])) (.cons (.same (by simp [F4])) .nil)) ?_;rcases IFo hF with ⟨h23,hF⟩|⟨h23,hF⟩
        ·have h23_:=h23;try simp at h23_
         have F5:=A3 F4 h23 h23_;try simp [F5]
         and_intros
         try any_goals first | omega | (simp [maxLen,F5] <;> omega)
         obtain ⟨v44,h24,hF⟩:=AaG hF;refine AC (AdI k _ _ _ _ _ _ _ _ _ _ _ _ _ _ _ _ _ _ _ _ _ _ _ _ _ _ _ h24) (.cons (.same (by simp [F5])) (.cons (.same (by simp [F5])) .nil)) ?_;refine TL F5 g r [2,3,5,6,7,8] [(4,.bool v44)] [0,1] [] 6 ?_;cases hF;exact AW.ret (hQ _ _ _ (by simp [Try.f20,F5]) (AaE (by simp [F5]))).1
        ·have h23_:=h23;try simp at h23_
         have F6:=A3 F4 h23 h23_;refine TL F6 g r [2,3,5,6,7,8] [(4,.bool false)] [0,1] [] 6 ?_;cases hF;exact AW.ret (hQ _ _ _ (by simp [Try.f20,F6]) (AaE (by simp [F6]))).1
       ·have h20_:=h20;try simp at h20_
        have F7:=A7 F3 h18 h18_ h19_ h19__ h20 h20_;refine TL F7 g r [2,3,5,6,7,8] [(4,.bool false)] [0,1] [] 6 ?_;cases hF;exact AW.ret (hQ _ _ _ (by simp [Try.f20,F7]) (AaE (by simp [F7]))).1
      ·have h19_:=Aba h19;have h19__:=Abd h19;have F8:=A6 F3 h18 h18_ h19 h19_ h19__;refine TL F8 g r [2,3,5,6,7,8] [(4,.bool false)] [0,1] [] 6 ?_;cases hF;exact AW.ret (hQ _ _ _ (by simp [Try.f20,F8]) (AaE (by simp [F8]))).1
     ·have h18_:=h18;try simp at h18_
      have F9:=A3 F3 h18 h18_;refine TL F9 g r [2,3,5,6,7,8] [(4,.bool false)] [0,1] [] 6 ?_;cases hF;exact AW.ret (hQ _ _ _ (by simp [Try.f20,F9]) (AaE (by simp [F9]))).1
    ·have h14_:=h14;try simp at h14_
     have F10:=A3 F2 h14 h14_;refine TL F10 g r [2,3,5,6,7,8] [(4,.bool false)] [0,1] [] 6 ?_;cases hF;exact AW.ret (hQ _ _ _ (by simp [Try.f20,F10]) (AaE (by simp [F10]))).1
   ·have h11_:=h11;try simp at h11_
    have F11:=A3 F1 h11 h11_;refine TL F11 g r [2,3,5,6,7,8] [(4,.bool false)] [0,1] [] 6 ?_;cases hF;exact AW.ret (hQ _ _ _ (by simp [Try.f20,F11]) (AaE (by simp [F11]))).1
  ·have h8_:=h8;try simp at h8_
   have F12:=A4 h5_ h5__ h8 h8_;refine TL F12 g r [2,3,5,6,7,8] [(4,.bool false)] [0,1] [] 6 ?_;cases hF;exact AW.ret (hQ _ _ _ (by simp [Try.f20,F12]) (AaE (by simp [F12]))).1
 ·have h5_:=Aba h5;have h5__:=Abd h5;have F13:=A3 h5 h5_ h5__;refine TL F13 g r [2,3,5,6,7,8] [(4,.bool false)] [0,1] [] 4 ?_;cases hF;exact AW.ret (hQ _ _ _ (by simp [Try.f20,F13]) (AaE (by simp [F13]))).1
end Go.TF
