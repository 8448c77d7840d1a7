import Derived.Test.YtomgdcnbceiggaaSmtWal29
import Derived.Test.YtomgdcnbceiggaaSmtWal30
import Derived.Test.YtomgdcnbceiggaaSmtWal31
set_option linter.unusedVariables false
set_option linter.unusedSimpArgs false
set_option maxRecDepth 100000
set_option maxHeartbeats 4000000
namespace Go.TF
open Go Go.Abs Go.Proofs Go.Proofs.YtomgdcnbceiggaaSmT
theorem AdD (k : Nat) (v0 : (List Int)) (v1 : Int) (v2 : (List Int)) (v3 : Bool) (hF : AbQ k v0=some (v1,v2,v3)) :
 AbP Try.prog 124 [AV.lst false false (List.map (AV.int .u8) v0)] [] (AV.tup [AV.int .i64 v1,Sc 0 v2,AV.bool v3]) [some (.grow (List.map (AV.int .u8) v2))]:=by
 unfold AbQ at hF;refine EN Try.func124 ?_;intro c0 w0 Q h0 hQ
 refine WJ [(0,Lb v0)] [] 0 (by simp) ?_;refine SW trivial [] N3 [] [] [] [] 0 ?_;refine AW.seq fun K0 hK0=>?_;refine SW trivial [] N3 [] [(10,.bool (decide ((v0.length : Int)<8)))] [] [] 0 ?_;rcases IFo hF with ⟨h1,hF⟩|⟨h1,hF⟩
 ·have h1_:=h1;try simp at h1_
  refine CT (by simp [h1,h1_] <;> omega) ?_;refine SW (A2 h1 h1_) [] N3 [0,10] [(2,Iz 0),(3,.lst true true (List.map (AV.int .u8) ([] : List Int))),(4,.bool false)] [] [] 0 ?_;refine AW.own' 3 1 true (by simp [h1,h1_]) (by decide) ?_;simp only [Option.some.injEq,Prod.mk.injEq] at hF;obtain ⟨e0,e1,e2⟩:=hF;subst e0 e1 e2;exact AW.ret (hQ _ _ _ (by simp [Try.f124,h1,h1_]) (AaE (by simp [h1,h1_]))).1
 ·have h1_:=h1;try simp at h1_
  refine CF (by simp [h1,h1_] <;> omega) ?_;refine AW.skip (hK0 _ _ _ ?_);refine SW (A2 h1 h1_) [] [none] [10] [(5,.int .u64 0)] [] [] 0 ?_;refine AW.seq fun K1 hK1=>?_;refine SR [] N4 fun _ _ g r=>?_;obtain ⟨h2,hF⟩:=AaP hF;have h2_:=h2;try simp at h2_
  have F1:=A4 h1 h1_ h2 h2_;refine TL F1 g r [] [(12,.lst false false (List.map (AV.int .u8) (v0.take (8 : Int).toNat))),(13,Iz ((v0.take (8 : Int).toNat).length : Int)),(14,Iz 0)] [] [] 0 ?_;refine AW.block ?_;refine AW.loopF (α:=(Int×Int)) (fun n (v4,v5)=>AbQ.L1 k v0 n v4 v5=some (v1,v2,v3)) (fun (v4,v5)=>[(0,Lb v0),(5,.int .u64 v4),(12,.lst false false (List.map (AV.int .u8) (v0.take (8 : Int).toNat))),(13,Iz ((v0.take (8 : Int).toNat).length : Int)),(14,Iz v5)]) (fun (v4,v5)=>[]) 0 k ((0,0)) hF (by simp [F1]) (by simp [F1]) (by simp) ?_;rintro (_|n1) ⟨v4,v5⟩ hF K2 hK2
  ·try dsimp only at hF
   rw [AbQ.L1] at hF; cases hF
  try dsimp only at hF
  rw [AbQ.L1] at hF;refine SW F1 [] [none] [] [(15,.bool (decide (v5<((v0.take (8 : Int).toNat).length : Int))))] [] [] 0 ?_;refine AW.seq fun K3 hK3=>?_;rcases IFo hF with ⟨h3,hF⟩|⟨h3,hF⟩
  ·have h3_:=h3;try simp at h3_
   have F2:=A3 F1 h3 h3_;refine CT (by simp [F2] <;> omega) ?_;refine AW.skip (hK3 _ _ _ ?_);refine AW.seq fun K4 hK4=>?_;refine AW.block ?_;refine SR [] N3 fun _ _ g r=>?_;obtain ⟨v6,h4,h5,h6,hF⟩:=Aai hF;have h6_:=AbA h6;try simp at h6_
   have h5_:=h5;try simp at h5_
   have h5t:=h5;rw [List.length_take] at h5t;have h5u:=(Nat.lt_min.1 h5t).1;have h5v:=(Nat.lt_min.1 h5t).2;have F3:=A8 F2 h4 h5 h6 h6_ h5_ h5u h5v;refine TL F3 g r [] [(7,.int .u8 v6)] [] [] 0 ?_;refine RG [] N6 fun _ _ g r=>?_;try simp [F3]
   and_intros <;> first | exact GK g | apply r | omega | (simp [maxLen,F3] <;> omega)
   refine hK4 _ _ _ ?_;refine WJ [(0,Lb v0),(5,.int .u64 (AaK .or .u64 (IntKind.wrap .u64 (v4*2 ^ (8))) (IntKind.wrap .u64 v6))),(12,.lst false false (List.map (AV.int .u8) (v0.take (8 : Int).toNat))),(13,Iz ((v0.take (8 : Int).toNat).length : Int)),(14,Iz v5)] [] 0 (by simp [F3]) ?_;refine RG [] N2 fun _ _ g r=>?_;try simp [F3]
   and_intros <;> first | exact GK g | apply r | omega | (simp [maxLen,F3] <;> omega)
   refine hK2 _ _ _ ?_;exact NX (k':=n1) ((AaK .or .u64 (IntKind.wrap .u64 (v4*2 ^ (8))) (IntKind.wrap .u64 v6),IntKind.wrap .i64 (v5+1))) hF (by simp [F3]) (by simp [F3])
  ·have h3_:=h3;try simp at h3_
   have F4:=A3 F1 h3 h3_;refine CF (by simp [F4] <;> omega) ?_;refine AW.exit ?_;try simp
   refine hK1 _ _ _ ?_;refine SR [] N8 fun _ _ g r=>?_;obtain ⟨h7,hF⟩:=AaP hF;have h7_:=h7;try simp at h7_
   have F5:=A3 F4 h7 h7_;try simp [F5]
   and_intros
   try any_goals first | omega | (simp [maxLen,F5] <;> omega)
   obtain ⟨v7,h8,hF⟩:=AaG hF;refine AC (AdM k _ _ h8) (.cons (.same (by simp [F5])) .nil) ?_;refine TL F5 g r [0,5,12,13,14] [(2,Iz (IntKind.wrap .i64 v4)),(3,Sc 0 v7),(4,.bool true)] [] [(0,.grow (List.map (AV.int .u8) v7))] 1 ?_;simp only [Option.some.injEq,Prod.mk.injEq] at hF;obtain ⟨e0,e1,e2⟩:=hF;subst e0 e1 e2;exact AW.ret (hQ _ _ _ (by simp [Try.f124,F5]) (AaE (by simp [F5]))).1
theorem Abx (k : Nat) (v0 : Bool) (hF : Abc k v0=some ()) :
 AbP Try.prog 87 [AV.bool v0] [] (AV.tup []) []:=by
 unfold Abc at hF;refine EN Try.func87 ?_;intro c0 w0 Q h0 hQ
 refine WJ [(0,.bool v0)] [] 0 (by simp) ?_;refine SW trivial [] N2 [0] [(3,.bool (!v0))] [] [] 0 ?_;rcases IFo hF with ⟨h1,hF⟩|⟨h1,hF⟩
 ·cases hF
 ·have h1_:=h1;try simp at h1_
  refine CF (by simp [h1,h1_] <;> omega) ?_;refine AW.skip ?_;refine (hQ _ _ _ ?_ (AaE ?_)).2
  ·simp [Try.f87,h1,h1_]
  ·simp [h1,h1_]
theorem AaH (k : Nat) (v0 : (List Int)) (v1 : Int) (v2 : (List Int)) (hF : AaT k v0=some (v1,v2)) :
 AbP Try.prog 116 [AV.ptr 0 0] [.cells [AV.lst false false (List.map (AV.int .u8) v0)]] (AV.int .i64 v1) [some (.cells [AV.lst false false (List.map (AV.int .u8) v2)])]:=by
 unfold AaT at hF;refine EN Try.func116 ?_;intro c0 w0 Q h0 hQ
 refine WJ [(0,.ptr 0 0)] [(0,.cells [Lb v0])] 1 (by simp) ?_;refine SW trivial [] [none] [] [] [] [] 1 ?_;obtain ⟨v3,v4,v5,h1,hF⟩:=AbK hF;refine CL trivial [] N12 (AdD k _ _ _ _ h1) [] [(3,Iz v3),(4,Sc 1 v4),(5,.bool v5)] [] [(1,.grow (List.map (AV.int .u8) v4))] 2 ?_;refine AW.frz 1 (o := .grow (List.map (AV.int .u8) v4)) (by simp) rfl [(4,Lb v4)] [] ⟨(.l (by simp) (by simp) (by simp) (by simp)),trivial⟩ trivial ?_;refine WJ [(0,.ptr 0 0),(3,Iz v3),(4,Lb v4),(5,.bool v5)] [(0,.cells [Lb v0])] 2 (by simp) ?_;obtain ⟨_,h2,hF⟩:=AaG hF;refine CL trivial [] N2 (Abx k _ h2) [5] [] [] [] 2 ?_;refine SW trivial [] N5 [0,4] [] [0] [(0,.cells [Lb v4])] 2 ?_;refine SW trivial [] N2 [3] [(2,Iz v3)] [] [] 2 ?_;simp only [Option.some.injEq,Prod.mk.injEq] at hF;obtain ⟨e0,e1⟩:=hF;subst e0 e1;refine AW.ret (hQ _ _ _ ?_ (AaE ?_)).1
 ·simp [Try.f116]
 ·simp
theorem AfJ (k : Nat) (v0 : (List Int)) (v1 : Int) (v2 : ByteArray) (v3 : (List Int)) (v4 : Bool) (hF : Ac6 k v0 v1=some (v2,v3,v4)) :
 AbP Try.prog 125 [AV.lst false false (List.map (AV.int .u8) v0),AV.int .i64 v1] [] (AV.tup [AV.str v2,AV.lst false false (List.map (AV.int .u8) v3),AV.bool v4]) []:=by
 unfold Ac6 at hF;refine EN Try.func125 ?_;intro c0 w0 Q h0 hQ
 refine WJ [(0,Lb v0),(1,Iz v1)] [] 0 (by simp) ?_;refine SW trivial [] N3 [] [] [] [] 0 ?_;obtain ⟨v5,v6,v7,h1,hF⟩:=AbK hF;refine CL trivial [] N9 (AdD k _ _ _ _ h1) [0] [(7,Iz v5),(8,Sc 0 v6),(9,.bool v7)] [] [(0,.grow (List.map (AV.int .u8) v6))] 1 ?_;refine AW.frz 0 (o := .grow (List.map (AV.int .u8) v6)) (by simp) rfl [(8,Lb v6)] [] ⟨(.l (by simp) (by simp) (by simp) (by simp)),trivial⟩ trivial ?_;refine WJ [(1,Iz v1),(7,Iz v5),(8,Lb v6),(9,.bool v7)] [] 1 (by simp) ?_;refine AW.seq fun K0 hK0=>?_;refine SR [] [none,none,none,some (18,false),some (18,false),none,none,some (22,false),some (22,false),some (22,false),none,none,some (27,false),some (27,false),some (27,false),some (27,false),none] fun _ _ g r=>?_;rcases IFo hF with ⟨h2,hF⟩|⟨h2,hF⟩
 ·have h2_:=h2;try simp at h2_
  refine TL (A2 h2 h2_) g r [1,9] [(32,.bool true)] [] [] 1 ?_;refine CT (by simp [h2,h2_]) ?_;refine SW (A2 h2 h2_) [] N3 [7,8,32] [(4,.str (ByteArray.mk #[])),(5,.lst true true (List.map (AV.int .u8) ([] : List Int))),(6,.bool false)] [] [] 1 ?_;refine AW.flg [(5,.lst false false (List.map (AV.int .u8) ([] : List Int)))] [] ⟨(.lst (by simp)),trivial⟩ trivial (by simp) ?_;simp only [Option.some.injEq,Prod.mk.injEq] at hF;obtain ⟨e0,e1,e2⟩:=hF;subst e0 e1 e2;exact AW.ret (hQ _ _ _ (by simp [Try.f125,h2,h2_]) (AaE (by simp [h2,h2_]))).1
 ·have h2_:=h2;try simp at h2_
  rcases IFo hF with ⟨h3,hF⟩|⟨h3,hF⟩
  ·have h3_:=h3;try simp at h3_
   have F1:=A4 h2 h2_ h3 h3_;refine TL F1 g r [1,9] [(32,.bool true)] [] [] 1 ?_;refine CT (by simp [F1]) ?_;refine SW F1 [] N3 [7,8,32] [(4,.str (ByteArray.mk #[])),(5,.lst true true (List.map (AV.int .u8) ([] : List Int))),(6,.bool false)] [] [] 1 ?_;refine AW.flg [(5,.lst false false (List.map (AV.int .u8) ([] : List Int)))] [] ⟨(.lst (by simp)),trivial⟩ trivial (by simp) ?_;simp only [Option.some.injEq,Prod.mk.injEq] at hF;obtain ⟨e0,e1,e2⟩:=hF;subst e0 e1 e2;exact AW.ret (hQ _ _ _ (by simp [Try.f125,F1]) (AaE (by simp [F1]))).1
  ·have h3_:=h3;try simp at h3_
   rcases IFo hF with ⟨h4,hF⟩|⟨h4,hF⟩
   ·have h4_:=h4;try simp at h4_
    have F2:=A6 h2 h2_ h3 h3_ h4 h4_;refine TL F2 g r [1,9] [(32,.bool true)] [] [] 1 ?_;refine CT (by simp [F2]) ?_;refine SW F2 [] N3 [7,8,32] [(4,.str (ByteArray.mk #[])),(5,.lst true true (List.map (AV.int .u8) ([] : List Int))),(6,.bool false)] [] [] 1 ?_;refine AW.flg [(5,.lst false false (List.map (AV.int .u8) ([] : List Int)))] [] ⟨(.lst (by simp)),trivial⟩ trivial (by simp) ?_;simp only [Option.some.injEq,Prod.mk.injEq] at hF;obtain ⟨e0,e1,e2⟩:=hF;subst e0 e1 e2;exact AW.ret (hQ _ _ _ (by simp [Try.f125,F2]) (AaE (by simp [F2]))).1
   ·have h4_:=h4;try simp at h4_
    have F3:=A6 h2 h2_ h3 h3_ h4 h4_;refine TL F3 g r [1,9] [(32,.bool (decide ((v6.length : Int)<v5)))] [] [] 1 ?_;rcases IFo hF with ⟨h5,hF⟩|⟨h5,hF⟩
    ·have h5_:=h5;try simp at h5_
     have F4:=A3 F3 h5 h5_;refine CT (by simp [F4] <;> omega) ?_;refine SW F4 [] N3 [7,8,32] [(4,.str (ByteArray.mk #[])),(5,.lst true true (List.map (AV.int .u8) ([] : List Int))),(6,.bool false)] [] [] 1 ?_;refine AW.flg [(5,.lst false false (List.map (AV.int .u8) ([] : List Int)))] [] ⟨(.lst (by simp)),trivial⟩ trivial (by simp) ?_;simp only [Option.some.injEq,Prod.mk.injEq] at hF;obtain ⟨e0,e1,e2⟩:=hF;subst e0 e1 e2;exact AW.ret (hQ _ _ _ (by simp [Try.f125,F4]) (AaE (by simp [F4]))).1
    ·have h5_:=h5;try simp at h5_
     have F5:=A3 F3 h5 h5_;refine CF (by simp [F5] <;> omega) ?_;refine AW.skip (hK0 _ _ _ ?_);refine SR [] N10 fun _ _ g r=>?_;obtain ⟨⟨h6,h7⟩,hF⟩:=AaP hF;have h6_:=h6;try simp at h6_
     have h7_:=h7;try simp at h7_
     obtain ⟨⟨h8,h9⟩,hF⟩:=AaP hF;have h8_:=h8;try simp at h8_
     have h9_:=h9;try simp at h9_
     have F6:=A9 F5 h6 h7 h6_ h7_ h8 h9 h8_ h9_;refine TL F6 g r [7,8,32] [(4,.str (ofI (v6.take (v5).toNat))),(5,.lst false false (List.map (AV.int .u8) (v6.drop (v5).toNat))),(6,.bool true)] [] [] 1 ?_;simp only [Option.some.injEq,Prod.mk.injEq] at hF;obtain ⟨e0,e1,e2⟩:=hF;subst e0 e1 e2;exact AW.ret (hQ _ _ _ (by simp [Try.f125,F6]) (AaE (by simp [F6]))).1
theorem Aau (k : Nat) (v0 : (List Int)) (v1 : Int) (v2 : ByteArray) (v3 : (List Int)) (hF : Aal k v0 v1=some (v2,v3)) :
 AbP Try.prog 117 [AV.ptr 0 0,AV.int .i64 v1] [.cells [AV.lst false false (List.map (AV.int .u8) v0)]] (AV.str v2) [some (.cells [AV.lst false false (List.map (AV.int .u8) v3)])]:=by
 unfold Aal at hF;refine EN Try.func117 ?_;intro c0 w0 Q h0 hQ
 refine WJ [(0,.ptr 0 0),(1,Iz v1)] [(0,.cells [Lb v0])] 1 (by simp) ?_;refine SW trivial [] [none] [] [] [] [] 1 ?_;obtain ⟨v4,v5,v6,h1,hF⟩:=AbK hF;refine CL trivial [] N13 (AfJ k _ _ _ _ _ h1) [1] [(5,.str v4),(6,Lb v5),(7,.bool v6)] [] [] 1 ?_;obtain ⟨_,h2,hF⟩:=AaG hF;refine CL trivial [] N2 (Abx k _ h2) [7] [] [] [] 1 ?_;refine SW trivial [] N5 [0,6] [] [0] [(0,.cells [Lb v5])] 1 ?_;refine SW trivial [] N2 [5] [(4,.str v4)] [] [] 1 ?_;simp only [Option.some.injEq,Prod.mk.injEq] at hF;obtain ⟨e0,e1⟩:=hF;subst e0 e1;refine AW.ret (hQ _ _ _ ?_ (AaE ?_)).1
 ·simp [Try.f117]
 ·simp
theorem AfK (k : Nat) (v0 : (List Int)) (v1 : Int) (v2 v3 : (List Int)) (v4 : Bool) (hF : AbT k v0 v1=some (v2,v3,v4)) :
 AbP Try.prog 126 [AV.lst false false (List.map (AV.int .u8) v0),AV.int .i64 v1] [] (AV.tup [Sc 0 v2,Sc 1 v3,AV.bool v4]) [some (Gi v2),some (.grow (List.map (AV.int .u8) v3))]:=by
 unfold AbT at hF;refine EN Try.func126 ?_;intro c0 w0 Q h0 hQ
 refine WJ [(0,Lb v0),(1,Iz v1)] [] 0 (by simp) ?_;refine SW trivial [] N3 [] [] [] [] 0 ?_;obtain ⟨v5,v6,v7,h1,hF⟩:=AbK hF;refine CL trivial [] N9 (AdD k _ _ _ _ h1) [0] [(7,Iz v5),(8,Sc 0 v6),(9,.bool v7)] [] [(0,.grow (List.map (AV.int .u8) v6))] 1 ?_;refine AW.seq fun K0 hK0=>?_;refine SR [] [none,none,none,some (20,false),some (20,false),none,none,some (24,false),some (24,false),some (24,false),none,none,some (29,false),some (29,false),some (29,false),some (29,false),some (29,false),none] fun _ _ g r=>?_;rcases IFo hF with ⟨h2,hF⟩|⟨h2,hF⟩
 ·have h2_:=h2;try simp at h2_
  refine TL (A2 h2 h2_) g r [1,9] [(35,.bool true)] [] [] 1 ?_;refine CT (by simp [h2,h2_]) ?_;refine SW (A2 h2 h2_) [] N3 [7,8,35] [(4,.lst true true (List.map (AV.int .i64) ([] : List Int))),(5,.lst true true (List.map (AV.int .u8) ([] : List Int))),(6,.bool false)] [0] [] 1 ?_;refine AW.own' 4 1 true (by simp [h2,h2_]) (by decide) ?_;refine AW.own' 5 1 true (by simp [h2,h2_]) (by decide) ?_;refine RM h0 [(0,1),(1,2)] [(4,.slc 0 0 1 (([] : List Int).length) false),(5,.slc 1 0 1 (([] : List Int).length) false),(6,.bool false)] [(0,Gi ([] : List Int)),(1,.grow (List.map (AV.int .u8) ([] : List Int)))] 2 (by simp [h2,h2_]) (by simp [h2,h2_]) ?_;simp only [Option.some.injEq,Prod.mk.injEq] at hF;obtain ⟨e0,e1,e2⟩:=hF;subst e0 e1 e2;exact AW.ret (hQ _ _ _ (by simp [Try.f126,h2,h2_]) (AaE (by simp [h2,h2_]))).1
 ·have h2_:=h2;try simp at h2_
  rcases IFo hF with ⟨h3,hF⟩|⟨h3,hF⟩
  ·have h3_:=h3;try simp at h3_
   have F1:=A4 h2 h2_ h3 h3_;refine TL F1 g r [1,9] [(35,.bool true)] [] [] 1 ?_;refine CT (by simp [F1]) ?_;refine SW F1 [] N3 [7,8,35] [(4,.lst true true (List.map (AV.int .i64) ([] : List Int))),(5,.lst true true (List.map (AV.int .u8) ([] : List Int))),(6,.bool false)] [0] [] 1 ?_;refine AW.own' 4 1 true (by simp [F1]) (by decide) ?_;refine AW.own' 5 1 true (by simp [F1]) (by decide) ?_;refine RM h0 [(0,1),(1,2)] [(4,.slc 0 0 1 (([] : List Int).length) false),(5,.slc 1 0 1 (([] : List Int).length) false),(6,.bool false)] [(0,Gi ([] : List Int)),(1,.grow (List.map (AV.int .u8) ([] : List Int)))] 2 (by simp [F1]) (by simp [F1]) ?_;simp only [Option.some.injEq,Prod.mk.injEq] at hF;obtain ⟨e0,e1,e2⟩:=hF;subst e0 e1 e2;exact AW.ret (hQ _ _ _ (by simp [Try.f126,F1]) (AaE (by simp [F1]))).1
  ·have h3_:=h3;try simp at h3_
   rcases IFo hF with ⟨h4,hF⟩|⟨h4,hF⟩
   ·have h4_:=h4;try simp at h4_
    have F2:=A6 h2 h2_ h3 h3_ h4 h4_;refine TL F2 g r [1,9] [(35,.bool true)] [] [] 1 ?_;refine CT (by simp [F2]) ?_;refine SW F2 [] N3 [7,8,35] [(4,.lst true true (List.map (AV.int .i64) ([] : List Int))),(5,.lst true true (List.map (AV.int .u8) ([] : List Int))),(6,.bool false)] [0] [] 1 ?_;refine AW.own' 4 1 true (by simp [F2]) (by decide) ?_;refine AW.own' 5 1 true (by simp [F2]) (by decide) ?_;refine RM h0 [(0,1),(1,2)] [(4,.slc 0 0 1 (([] : List Int).length) false),(5,.slc 1 0 1 (([] : List Int).length) false),(6,.bool false)] [(0,Gi ([] : List Int)),(1,.grow (List.map (AV.int .u8) ([] : List Int)))] 2 (by simp [F2]) (by simp [F2]) ?_;simp only [Option.some.injEq,Prod.mk.injEq] at hF;obtain ⟨e0,e1,e2⟩:=hF;subst e0 e1 e2;exact AW.ret (hQ _ _ _ (by simp [Try.f126,F2]) (AaE (by simp [F2]))).1
   ·have h4_:=h4;try simp at h4_
    have F3:=A6 h2 h2_ h3 h3_ h4 h4_;refine TL F3 g r [1,9] [(35,.bool (decide (IntKind.wrap .i64 (Int.tdiv (v6.length : Int) 8)<v5)))] [] [] 1 ?_;rcases IFo hF with ⟨h5,hF⟩|⟨h5,hF⟩
    ·have h5_:=h5;try simp at h5_
     have F4:=A3 F3 h5 h5_;refine CT (by simp [F4] <;> omega) ?_;refine SW F4 [] N3 [7,8,35] [(4,.lst true true (List.map (AV.int .i64) ([] : List Int))),(5,.lst true true (List.map (AV.int .u8) ([] : List Int))),(6,.bool false)] [0] [] 1 ?_;refine AW.own' 4 1 true (by simp [F4]) (by decide) ?_;refine AW.own' 5 1 true (by simp [F4]) (by decide) ?_;refine RM h0 [(0,1),(1,2)] [(4,.slc 0 0 1 (([] : List Int).length) false),(5,.slc 1 0 1 (([] : List Int).length) false),(6,.bool false)] [(0,Gi ([] : List Int)),(1,.grow (List.map (AV.int .u8) ([] : List Int)))] 2 (by simp [F4]) (by simp [F4]) ?_;simp only [Option.some.injEq,Prod.mk.injEq] at hF;obtain ⟨e0,e1,e2⟩:=hF;subst e0 e1 e2;exact AW.ret (hQ _ _ _ (by simp [Try.f126,F4]) (AaE (by simp [F4]))).1
    ·have h5_:=h5;try simp at h5_
     have F5:=A3 F3 h5 h5_;refine CF (by simp [F5] <;> omega) ?_;refine AW.skip (hK0 _ _ _ ?_);refine SW F5 [] [none] [35] [(10,.lst true true (List.map (AV.int .i64) ([] : List Int)))] [] [] 1 ?_;refine AW.seq fun K1 hK1=>?_;refine SW F5 [] N2 [7] [(36,Iz v5),(37,Iz 0)] [] [] 1 ?_;refine AW.block ?_;refine AW.own' 10 1 true (by simp [F5]) (by decide) ?_;refine AW.loopF (α:=(Int×(List Int)×(List Int))) (fun n (v8,v9,v10)=>AbT.L1 k v5 n v8 v9 v10=some (v2,v3,v4)) (fun (v8,v9,v10)=>[(8,Sc 0 v9),(10,Sc 1 v10),(36,Iz v5),(37,Iz v8)]) (fun (v8,v9,v10)=>[(0,.grow (List.map (AV.int .u8) v9)),(1,Gi v10)]) 2 k ((0,v6,([] : List Int))) hF (by simp [F5]) (by simp [F5]) (by simp) ?_;rintro (_|n1) ⟨v8,v9,v10⟩ hF K2 hK2
     ·try dsimp only at hF
      rw [AbT.L1] at hF; cases hF
     try dsimp only at hF
     rw [AbT.L1] at hF;refine SW F5 [] [none] [] [(38,.bool (decide (v8<v5)))] [] [] 2 ?_;refine AW.seq fun K3 hK3=>?_;rcases IFo hF with ⟨h6,hF⟩|⟨h6,hF⟩
     ·have h6_:=h6;try simp at h6_
      have F6:=A3 F5 h6 h6_;refine CT (by simp [F6] <;> omega) ?_;refine AW.skip (hK3 _ _ _ ?_);refine WJ [(8,Sc 0 v9),(10,Sc 1 v10),(36,Iz v5),(37,Iz v8)] [(0,.grow (List.map (AV.int .u8) v9)),(1,Gi v10)] 2 (by simp [F6]) ?_;refine AW.frz 0 (o := .grow (List.map (AV.int .u8) v9)) (by simp [F6]) rfl [(8,Lb v9)] [] ⟨(.l (by simp) (by simp) (by simp) (by simp)),trivial⟩ trivial ?_;refine WJ [(8,Lb v9),(10,Sc 1 v10),(36,Iz v5),(37,Iz v8)] [(1,Gi v10)] 2 (by simp [F6]) ?_;refine AW.seq fun K4 hK4=>?_;refine AW.block ?_;refine SW F6 [] [none] [] [] [] [] 2 ?_;obtain ⟨v11,v12,v13,h7,hF⟩:=AbK hF;refine CL F6 [] N8 (AdD k _ _ _ _ h7) [8] [(8,Sc 2 v12),(11,Iz v11)] [] [(2,.grow (List.map (AV.int .u8) v12))] 3 ?_;refine RG [] N5 fun _ _ g r=>?_;obtain ⟨h8,hF⟩:=AaP hF;have h8_:=h8;try simp at h8_
      have F7:=A2 F6 h8;try simp [F7]
      and_intros <;> first | exact GK g | apply r | omega | (simp [maxLen,F7] <;> omega)
      refine hK4 _ _ _ ?_;refine WK [(8,Sc 2 v12),(10,.slc 3 0 1 ((v10++([v11] : List Int)).length) false),(36,Iz v5),(37,Iz v8)] [(2,.grow (List.map (AV.int .u8) v12)),(3,Gi (v10++([v11] : List Int)))] 4 (by simp [F7] <;> omega) (by simp [F7]) ?_;refine RG [] N2 fun _ _ g r=>?_;try simp [F7]
      and_intros <;> first | exact GK g | apply r | omega | (simp [maxLen,F7] <;> omega)
      refine hK2 _ _ _ ?_;refine RN h0 [(0,2),(1,3)] [(8,Sc 0 v12),(10,.slc 1 0 1 ((v10++([v11] : List Int)).length) false),(36,Iz v5),(37,Iz (IntKind.wrap .i64 (v8+1)))] [(0,.grow (List.map (AV.int .u8) v12)),(1,Gi (v10++([v11] : List Int)))] 2 (by simp [F7] <;> omega) (by simp [F7]) ?_;exact NX (k':=n1) ((IntKind.wrap .i64 (v8+1),v12,v10++([v11] : List Int))) hF (by simp [F7]) (by simp [F7])
     ·have h6_:=h6;try simp at h6_
      have F8:=A3 F5 h6 h6_;refine CF (by simp [F8] <;> omega) ?_;refine AW.exit ?_;try simp
      refine hK1 _ _ _ ?_;refine SQ [] N5 fun _ _ g r=>?_;try simp [F8]
      and_intros <;> first | exact GK g | apply r | omega | (simp [maxLen,F8] <;> omega)
      refine RM h0 [(0,1),(1,0)] [(4,Sc 0 v10),(5,Sc 1 v9),(6,.bool true)] [(0,Gi v10),(1,.grow (List.map (AV.int .u8) v9))] 2 (by simp [F8]) (by simp [F8]) ?_;simp only [Option.some.injEq,Prod.mk.injEq] at hF;obtain ⟨e0,e1,e2⟩:=hF;subst e0 e1 e2;exact AW.ret (hQ _ _ _ (by simp [Try.f126,F8]) (AaE (by simp [F8]))).1
theorem AdV (k : Nat) (v0 : (List Int)) (v1 : Int) (v2 v3 : (List Int)) (hF : AbY k v0 v1=some (v2,v3)) :
 AbP Try.prog 118 [AV.ptr 0 0,AV.int .i64 v1] [.cells [AV.lst false false (List.map (AV.int .u8) v0)]] (Sc 1 v2) [some (.cells [AV.lst false false (List.map (AV.int .u8) v3)]),some (Gi v2)]:=by
 unfold AbY at hF;refine EN Try.func118 ?_;intro c0 w0 Q h0 hQ
 refine WJ [(0,.ptr 0 0),(1,Iz v1)] [(0,.cells [Lb v0])] 1 (by simp) ?_;refine SW trivial [] [none] [] [] [] [] 1 ?_;obtain ⟨v4,v5,v6,h1,hF⟩:=AbK hF;refine CL trivial [] N13 (AfK k _ _ _ _ _ h1) [1] [(5,Sc 1 v4),(6,Sc 2 v5),(7,.bool v6)] [] [(1,Gi v4),(2,.grow (List.map (AV.int .u8) v5))] 3 ?_;refine AW.frz 2 (o := .grow (List.map (AV.int .u8) v5)) (by simp) rfl [(6,Lb v5)] [] ⟨(.l (by simp) (by simp) (by simp) (by simp)),trivial⟩ trivial ?_;refine WJ [(0,.ptr 0 0),(5,Sc 1 v4),(6,Lb v5),(7,.bool v6)] [(0,.cells [Lb v0]),(1,Gi v4)] 3 (by simp) ?_;obtain ⟨_,h2,hF⟩:=AaG hF;refine CL trivial [] N2 (Abx k _ h2) [7] [] [] [] 3 ?_;refine SW trivial [] N5 [0,6] [] [0] [(0,.cells [Lb v5])] 3 ?_;refine SW trivial [] N2 [5] [(4,Sc 1 v4)] [] [] 3 ?_;simp only [Option.some.injEq,Prod.mk.injEq] at hF;obtain ⟨e0,e1⟩:=hF;subst e0 e1;refine AW.ret (hQ _ _ _ ?_ (AaE ?_)).1
 ·simp [Try.f118]
 ·simp
abbrev Abw  : Aan := .cells [Iz 0,Iz 0,AV.str (ByteArray.mk #[]),Iz 0,Iz 0,Iz 0,Iz 0,Iz 0,AV.lst true true (List.map (AV.int .i64) ([] : List Int)),AV.slc 2 0 3 (([] : List AaD).length) false,AV.str (ByteArray.mk #[]),Iz 0,AV.str (ByteArray.mk #[])]
abbrev AdS  : Aan := .cells [Iz 0,Iz 0,AV.str (ByteArray.mk #[]),Iz 0,Iz 0,Iz 0,Iz 0,Iz 0,AV.lst true true (List.map (AV.int .i64) ([] : List Int)),AV.lst true true (List.map AaD.av ([] : List AaD)),AV.str (ByteArray.mk #[]),Iz 0,AV.str (ByteArray.mk #[])]
theorem Aew (k : Nat) (v0 : (List Int)) (v1 : AaI) (v2 : (List Int)) (hF : Aam k v0=some (v1,v2)) :
 AbP Try.prog 86 [AV.ptr 0 0] [.cells [AV.lst false false (List.map (AV.int .u8) v0)]] (AV.agg [AV.int .i64 v1.Author,AV.int .i64 v1.Number,AV.str v1.Prev,AV.int .i64 v1.Time,AV.int .i64 v1.Kind,AV.int .i64 v1.A,AV.int .i64 v1.B,AV.int .i64 v1.C,AV.lst false false (List.map (AV.int .i64) v1.Lst),AV.slc 1 0 3 v1.Pins.length false,AV.str v1.Body,AV.int .i64 v1.Seal_Key,AV.str v1.Seal_Digest]) [some (.cells [AV.lst false false (List.map (AV.int .u8) v2)]),some (.grow (AaM (List.map AaD.av v1.Pins)))]:=by
 unfold Aam at hF;refine EN Try.func86 ?_;intro c0 w0 Q h0 hQ
 refine WJ [(0,.ptr 0 0)] [(0,.cells [Lb v0])] 1 (by simp) ?_;refine SW trivial [] [none] [] [(2,.ptr 1 0)] [] [(1,AdS )] 2 ?_;refine SR [] N21 fun _ _ g r=>?_;try simp
 and_intros
 try any_goals first | omega | (simp [maxLen] <;> omega)
 obtain ⟨v3,v4,h1,hF⟩:=Aaa hF;refine AaO (AaH k _ _ _ h1) (by simp) [0] [] [0] rfl (.cons (.same (by simp)) .nil) (by simp) (by decide) (by simp) (by simp) (.inl rfl) (by simp) (by simp) ?_;try simp
 and_intros
 try any_goals first | omega | (simp [maxLen] <;> omega)
 obtain ⟨v5,v6,h2,hF⟩:=Aaa hF;refine AaO (AaH k _ _ _ h2) (by simp) [0] [] [0] rfl (.cons (.same (by simp)) .nil) (by simp) (by decide) (by simp) (by simp) (.inl rfl) (by simp) (by simp) ?_;try simp
 and_intros
 try any_goals first | omega | (simp [maxLen] <;> omega)
 obtain ⟨v7,v8,h3,hF⟩:=Aaa hF;refine AaO (Aau k _ _ _ _ h3) (by simp) [0] [] [0] rfl (.cons (.same (by simp)) (.cons (.same (by simp)) .nil)) (by simp) (by decide) (by simp) (by simp) (.inl rfl) (by simp) (by simp) ?_;try simp
 and_intros
 try any_goals first | omega | (simp [maxLen] <;> omega)
 obtain ⟨v9,v10,h4,hF⟩:=Aaa hF;refine AaO (AaH k _ _ _ h4) (by simp) [0] [] [0] rfl (.cons (.same (by simp)) .nil) (by simp) (by decide) (by simp) (by simp) (.inl rfl) (by simp) (by simp) ?_;try simp
 and_intros
 try any_goals first | omega | (simp [maxLen] <;> omega)
 obtain ⟨v11,v12,h5,hF⟩:=Aaa hF;refine AaO (AaH k _ _ _ h5) (by simp) [0] [] [0] rfl (.cons (.same (by simp)) .nil) (by simp) (by decide) (by simp) (by simp) (.inl rfl) (by simp) (by simp) ?_;try simp
 and_intros
 try any_goals first | omega | (simp [maxLen] <;> omega)
 obtain ⟨v13,v14,h6,hF⟩:=Aaa hF;refine AaO (AaH k _ _ _ h6) (by simp) [0] [] [0] rfl (.cons (.same (by simp)) .nil) (by simp) (by decide) (by simp) (by simp) (.inl rfl) (by simp) (by simp) ?_;try simp
 and_intros
 try any_goals first | omega | (simp [maxLen] <;> omega)
 obtain ⟨v15,v16,h7,hF⟩:=Aaa hF;refine AaO (AaH k _ _ _ h7) (by simp) [0] [] [0] rfl (.cons (.same (by simp)) .nil) (by simp) (by decide) (by simp) (by simp) (.inl rfl) (by simp) (by simp) ?_;try simp
 and_intros
 try any_goals first | omega | (simp [maxLen] <;> omega)
 obtain ⟨v17,v18,h8,hF⟩:=Aaa hF;refine AaO (AaH k _ _ _ h8) (by simp) [0] [] [0] rfl (.cons (.same (by simp)) .nil) (by simp) (by decide) (by simp) (by simp) (.inl rfl) (by simp) (by simp) ?_;try simp
 and_intros
 try any_goals first | omega | (simp [maxLen] <;> omega)
 obtain ⟨v19,v20,h9,hF⟩:=Aaa hF;refine AaO (AdV k _ _ _ _ h9) (by simp) [0] [] [0] rfl (.cons (.same (by simp)) (.cons (.same (by simp)) .nil)) (by simp) (by decide) (by simp) (by simp) (.inl rfl) (by simp) (by simp) ?_;refine TL trivial g r [] [(3,.ptr 3 0)] [0] [(0,.cells [Lb v20]),(2,Gi v19),(3,.cells [Iz v3,Iz v5,AV.str v7,Iz v9,Iz v11,Iz v13,Iz v15,Iz v17,Sc 2 v19,AV.lst true true (List.map AaD.av ([] : List AaD)),AV.str (ByteArray.mk #[]),Iz 0,AV.str (ByteArray.mk #[])])] 4 ?_;refine AW.frz 2 (o:=Gi v19) (by simp) rfl [] [(3,.cells [Iz v3,Iz v5,AV.str v7,Iz v9,Iz v11,Iz v13,Iz v15,Iz v17,Lz v19,AV.lst true true (List.map AaD.av ([] : List AaD)),AV.str (ByteArray.mk #[]),Iz 0,AV.str (ByteArray.mk #[])])] trivial ⟨⟨by simp,Aan.cells [Iz v3,Iz v5,AV.str v7,Iz v9,Iz v11,Iz v13,Iz v15,Iz v17,Sc 2 v19,AV.lst true true (List.map AaD.av ([] : List AaD)),AV.str (ByteArray.mk #[]),Iz 0,AV.str (ByteArray.mk #[])],by simp,(.mk (.cons (.same _) (.cons (.same _) (.cons (.same _) (.cons (.same _) (.cons (.same _) (.cons (.same _) (.cons (.same _) (.cons (.same _) (.cons (.l (by simp) (by simp) (by simp) (by simp)) (.cons (.same _) (.cons (.same _) (.cons (.same _) (.cons (.same _) .nil))))))))))))))⟩,trivial⟩ ?_;refine WJ [(0,.ptr 0 0),(2,.ptr 1 0),(3,.ptr 3 0)] [(0,.cells [Lb v20]),(1,AdS ),(3,.cells [Iz v3,Iz v5,AV.str v7,Iz v9,Iz v11,Iz v13,Iz v15,Iz v17,Lz v19,AV.lst true true (List.map AaD.av ([] : List AaD)),AV.str (ByteArray.mk #[]),Iz 0,AV.str (ByteArray.mk #[])])] 4 (by simp) ?_;refine SR [] N3 fun _ _ g r=>?_;try simp
 and_intros
 try any_goals first | omega | (simp [maxLen] <;> omega)
 obtain ⟨v21,v22,h10,hF⟩:=Aaa hF;refine AaO (AaH k _ _ _ h10) (by simp) [0] [] [0] rfl (.cons (.same (by simp)) .nil) (by simp) (by decide) (by simp) (by simp) (.inl rfl) (by simp) (by simp) ?_;refine TL trivial g r [] [(4,Iz v21)] [0] [(0,.cells [Lb v22])] 4 ?_;refine SR [] N3 fun _ _ g r=>?_;try simp
 and_intros
 try any_goals first | omega | (simp [maxLen] <;> omega)
 obtain ⟨v23,h11,hF⟩:=AaG hF;refine AC (Abj k _ _ _ _ h11) (.cons (.same (by simp)) (.cons (.same (by simp)) (.cons (.same (by simp)) .nil))) ?_;try simp
 and_intros
 try any_goals first | omega | (simp [maxLen] <;> omega)
 obtain ⟨_,h12,hF⟩:=AaG hF;refine AC (Abx k _ h12) (.cons (.same (by simp)) .nil) ?_;refine TL trivial g r [] [] [] [] 4 ?_;refine AW.seq fun K0 hK0=>?_;refine SW trivial [] N2 [4] [(29,Iz v21),(30,Iz 0)] [] [] 4 ?_;refine AW.block ?_;refine AW.ownC 1 9 3 true (cs:=[Iz 0,Iz 0,AV.str (ByteArray.mk #[]),Iz 0,Iz 0,Iz 0,Iz 0,Iz 0,AV.lst true true (List.map (AV.int .i64) ([] : List Int)),AV.lst true true (List.map AaD.av ([] : List AaD)),AV.str (ByteArray.mk #[]),Iz 0,AV.str (ByteArray.mk #[])]) (by simp) (by simp) ?_;refine AW.ownC 3 9 3 true (cs:=[Iz v3,Iz v5,AV.str v7,Iz v9,Iz v11,Iz v13,Iz v15,Iz v17,Lz v19,AV.lst true true (List.map AaD.av ([] : List AaD)),AV.str (ByteArray.mk #[]),Iz 0,AV.str (ByteArray.mk #[])]) (by simp) (by simp) ?_;refine AW.rnm (m:=1) h0 [(0,0),(1,1),(2,4),(3,3),(4,5)] [(0,.ptr 0 0),(2,.ptr 1 0),(3,.ptr 3 0),(29,Iz v21),(30,Iz 0)] [(0,.cells [Lb v22]),(1,Abw ),(2,.grow (AaM (List.map AaD.av ([] : List AaD)))),(3,.cells [Iz v3,Iz v5,AV.str v7,Iz v9,Iz v11,Iz v13,Iz v15,Iz v17,Lz v19,AV.slc 4 0 3 (([] : List AaD).length) false,AV.str (ByteArray.mk #[]),Iz 0,AV.str (ByteArray.mk #[])]),(4,.grow (AaM (List.map AaD.av ([] : List AaD))))] 5 (by decide) (by decide) (by decide) rfl (by simp) (by simp) ?_;refine AW.loopF (α:=(Int×(List Int)×(List AaD))) (fun n (v24,v25,v26)=>Aam.L1 k v3 v5 v7 v9 v11 v13 v15 v17 v19 v21 n v24 v25 v26=some (v1,v2)) (fun (v24,v25,v26)=>[(0,.ptr 0 0),(2,.ptr 1 0),(3,.ptr 3 0),(29,Iz v21),(30,Iz v24)]) (fun (v24,v25,v26)=>[(0,.cells [Lb v25]),(1,Abw ),(2,.grow (AaM (List.map AaD.av ([] : List AaD)))),(3,.cells [Iz v3,Iz v5,AV.str v7,Iz v9,Iz v11,Iz v13,Iz v15,Iz v17,Lz v19,AV.slc 4 0 3 v26.length false,AV.str (ByteArray.mk #[]),Iz 0,AV.str (ByteArray.mk #[])]),(4,.grow (AaM (List.map AaD.av v26)))]) 5 k ((0,v22,([] : List AaD))) hF (by simp) (by simp) (by simp) ?_;rintro (_|n1) ⟨v24,v25,v26⟩ hF K1 hK1
 ·try dsimp only at hF
  rw [Aam.L1] at hF; cases hF
 try dsimp only at hF
 rw [Aam.L1] at hF;refine SW trivial [] [none] [] [(31,.bool (decide (v24<v21)))] [] [] 5 ?_;refine AW.seq fun K2 hK2=>?_;rcases IFo hF with ⟨h13,hF⟩|⟨h13,hF⟩
 ·have h13_:=h13;try simp at h13_
  refine CT (by simp [h13,h13_] <;> omega) ?_;refine AW.skip (hK2 _ _ _ ?_);refine AW.seq fun K3 hK3=>?_;refine AW.block ?_;refine RG [] N13 fun _ _ g r=>?_;try simp [h13,h13_]
  and_intros
  try any_goals first | omega | (simp [h13,h13_,maxLen] <;> omega)
  obtain ⟨v27,v28,h14,hF⟩:=Aaa hF;refine AaO (AaH k _ _ _ h14) (by simp) [0] [] [0] rfl (.cons (.same (by simp [h13,h13_])) .nil) (by simp [h13,h13_]) (by decide) (by simp) (by simp) (.inl rfl) (by simp) (by simp) ?_;try simp [h13,h13_]
  and_intros
  try any_goals first | omega | (simp [h13,h13_,maxLen] <;> omega)
  obtain ⟨v29,v30,h15,hF⟩:=Aaa hF;refine AaO (AaH k _ _ _ h15) (by simp) [0] [] [0] rfl (.cons (.same (by simp [h13,h13_])) .nil) (by simp [h13,h13_]) (by decide) (by simp) (by simp) (.inl rfl) (by simp) (by simp) ?_;try simp [h13,h13_]
  and_intros
  try any_goals first | omega | (simp [h13,h13_,maxLen] <;> omega)
  obtain ⟨v31,v32,h16,hF⟩:=Aaa hF;refine AaO (Aau k _ _ _ _ h16) (by simp) [0] [] [0] rfl (.cons (.same (by simp [h13,h13_])) (.cons (.same (by simp [h13,h13_])) .nil)) (by simp [h13,h13_]) (by decide) (by simp) (by simp) (.inl rfl) (by simp) (by simp) ?_;obtain ⟨h17,hF⟩:=AaP hF;have h17_:=h17;try simp at h17_
  have F1:=A3 h13 h13_ h17;try simp [F1]
  and_intros <;> first | exact GK g | apply r | omega | (simp [maxLen,F1] <;> omega)
  refine hK3 _ _ _ ?_;refine WK [(0,.ptr 0 0),(2,.ptr 1 0),(3,.ptr 3 0),(29,Iz v21),(30,Iz v24)] [(0,.cells [Lb v32]),(1,Abw ),(2,.grow (AaM (List.map AaD.av ([] : List AaD)))),(3,.cells [Iz v3,Iz v5,AV.str v7,Iz v9,Iz v11,Iz v13,Iz v15,Iz v17,Lz v19,AV.slc 5 0 3 ((v26++([(AaD.mk v27 v29 v31)] : List AaD)).length) false,AV.str (ByteArray.mk #[]),Iz 0,AV.str (ByteArray.mk #[])]),(5,.grow (AaM (List.map AaD.av (v26++([(AaD.mk v27 v29 v31)] : List AaD)))))] 6 (by simp [F1]) (by simp [F1] <;> omega) ?_;refine RG [] N2 fun _ _ g r=>?_;try simp [F1]
  and_intros <;> first | exact GK g | apply r | omega | (simp [maxLen,F1] <;> omega)
  refine hK1 _ _ _ ?_;refine Can.weak [(0,.ptr 0 0),(2,.ptr 1 0),(3,.ptr 3 0),(29,Iz v21),(30,Iz (IntKind.wrap .i64 (v24+1)))] [(0,.cells [Lb v32]),(1,Abw ),(2,.grow (AaM (List.map AaD.av ([] : List AaD)))),(3,.cells [Iz v3,Iz v5,AV.str v7,Iz v9,Iz v11,Iz v13,Iz v15,Iz v17,Lz v19,AV.slc 5 0 3 ((v26++([(AaD.mk v27 v29 v31)] : List AaD)).length) false,AV.str (ByteArray.mk #[]),Iz 0,AV.str (ByteArray.mk #[])]),(5,.grow (AaM (List.map AaD.av (v26++([(AaD.mk v27 v29 v31)] : List AaD)))))] 6 (by simp [F1]) (by simp [F1] <;> omega) (by simp) ?_;refine Can.ren (m:=1) h0 [(0,0),(1,1),(2,2),(3,3),(4,5)] [(0,.ptr 0 0),(2,.ptr 1 0),(3,.ptr 3 0),(29,Iz v21),(30,Iz (IntKind.wrap .i64 (v24+1)))] [(0,.cells [Lb v32]),(1,Abw ),(2,.grow (AaM (List.map AaD.av ([] : List AaD)))),(3,.cells [Iz v3,Iz v5,AV.str v7,Iz v9,Iz v11,Iz v13,Iz v15,Iz v17,Lz v19,AV.slc 4 0 3 ((v26++([(AaD.mk v27 v29 v31)] : List AaD)).length) false,AV.str (ByteArray.mk #[]),Iz 0,AV.str (ByteArray.mk #[])]),(4,.grow (AaM (List.map AaD.av (v26++([(AaD.mk v27 v29 v31)] : List AaD)))))] 5 (by decide) (by decide) (by decide) rfl (by simp [F1]) (by simp [F1]) ?_;exact NX (k':=n1) ((IntKind.wrap .i64 (v24+1),v32,v26++([(AaD.mk v27 v29 v31)] : List AaD))) hF (by simp [F1]) (by simp [F1])
 ·have h13_:=h13;try simp at h13_
  refine CF (by simp [h13,h13_] <;> omega) ?_;refine AW.exit ?_;try simp
  refine hK0 _ _ _ ?_;refine SR [] N4 fun _ _ g r=>?_;try simp [h13,h13_]
  and_intros
  try any_goals first | omega | (simp [h13,h13_,maxLen] <;> omega)
  obtain ⟨v33,v34,h18,hF⟩:=Aaa hF;refine AaO (Aau k _ _ _ _ h18) (by simp) [0] [] [0] rfl (.cons (.same (by simp [h13,h13_])) (.cons (.same (by simp [h13,h13_])) .nil)) (by simp [h13,h13_]) (by decide) (by simp) (by simp) (.inl rfl) (by simp) (by simp) ?_;refine TL (A2 h13 h13_) g r [29,30] [] [0,3] [(0,.cells [Lb v34]),(3,.cells [Iz v3,Iz v5,AV.str v7,Iz v9,Iz v11,Iz v13,Iz v15,Iz v17,Lz v19,AV.slc 4 0 3 v26.length false,AV.str v33,Iz 0,AV.str (ByteArray.mk #[])])] 5 ?_;refine SR [] N7 fun _ _ g r=>?_;try simp [h13,h13_]
  and_intros
  try any_goals first | omega | (simp [h13,h13_,maxLen] <;> omega)
  obtain ⟨v35,v36,h19,hF⟩:=Aaa hF;refine AaO (AaH k _ _ _ h19) (by simp) [0] [] [0] rfl (.cons (.same (by simp [h13,h13_])) .nil) (by simp [h13,h13_]) (by decide) (by simp) (by simp) (.inl rfl) (by simp) (by simp) ?_;try simp [h13,h13_]
  and_intros
  try any_goals first | omega | (simp [h13,h13_,maxLen] <;> omega)
  obtain ⟨v37,v38,h20,hF⟩:=Aaa hF;refine AaO (Aau k _ _ _ _ h20) (by simp) [0] [] [0] rfl (.cons (.same (by simp [h13,h13_])) (.cons (.same (by simp [h13,h13_])) .nil)) (by simp [h13,h13_]) (by decide) (by simp) (by simp) (.inl rfl) (by simp) (by simp) ?_;refine TL (A2 h13 h13_) g r [0] [] [0,3] [(0,.cells [Lb v38]),(3,.cells [Iz v3,Iz v5,AV.str v7,Iz v9,Iz v11,Iz v13,Iz v15,Iz v17,Lz v19,AV.slc 4 0 3 v26.length false,AV.str v33,Iz v35,AV.str v37])] 5 ?_;refine SW (A2 h13 h13_) [] N2 [3] [] [1,2,3] [(1,.cells [Iz v3,Iz v5,AV.str v7,Iz v9,Iz v11,Iz v13,Iz v15,Iz v17,Lz v19,AV.slc 4 0 3 v26.length false,AV.str v33,Iz v35,AV.str v37])] 5 ?_;refine AW.rnm (m:=1) h0 [(0,0),(1,4),(2,1)] [(2,.ptr 2 0)] [(0,.cells [Lb v38]),(1,.grow (AaM (List.map AaD.av v26))),(2,.cells [Iz v3,Iz v5,AV.str v7,Iz v9,Iz v11,Iz v13,Iz v15,Iz v17,Lz v19,AV.slc 1 0 3 v26.length false,AV.str v33,Iz v35,AV.str v37])] 3 (by decide) (by decide) (by decide) rfl (by simp [h13,h13_]) (by simp [h13,h13_]) ?_;simp only [Option.some.injEq,Prod.mk.injEq] at hF;obtain ⟨e0,e1⟩:=hF;subst e0 e1;exact AW.ret (hQ _ _ _ (by simp [Try.f86,h13,h13_]) (AaE (by simp [h13,h13_]))).1
def pch : List PanicEntry:=[{ v := .iface 108 (.agg #[]),recovered:=false }]
def Ark : List PanicEntry:=[{ v := .iface 108 (.agg #[]),recovered:=true }]
theorem Ane : Afd (fun _ => .panicked pch) Try.prog 87 [AV.bool false] [] .undef [] where
 len:=by simp
 ga:=by simp
 gO:=by simp
 gr:=trivial
 gO':=by simp
 call:=by
  intro c w vs hr hu ha
  simp only [AaF,Rep] at ha;obtain ⟨v,rest,h1,rfl,rfl⟩:=ha;obtain rfl : vs = #[.bool false]:=by cases vs; simp_all
  have key : Calls Try.prog 87 #[.bool false] w fun e w'=>e = .panicked pch∧w'=w:=by
   go_enter Try.func87,Try.ntmps87
   go_wp2
   exact ⟨rfl,rfl,rfl⟩
  refine Calls.mono key fun e w' ⟨h1,h2⟩=>?_;subst h2;exact ⟨Go.undef,c,_,h1,hr,fun i hi=>by simp at hi,by simp [Rep],.refl _ _⟩
theorem Abr (k : Nat) (v0 : Bool) (hF : AcC k v0=some ()) : Afd (fun _ => .panicked pch) Try.prog 87 [AV.bool v0] [] .undef (List.replicate ([] : List Aan).length none):=by
 unfold AcC at hF;cases v0 with
 | true=>simp at hF
 | false=>exact Ane
theorem Aaz (k : Nat) (v0 : (List Int)) (hF : Aaf k v0=some ()) :
 Afd (fun _ => .panicked pch) Try.prog 116 [AV.ptr 0 0] [.cells [Lb v0]] .undef (List.replicate ([.cells [Lb v0]] : List Aan).length none):=by
 unfold Aaf at hF;refine ArX.enter Try.func116 rfl (by simp) (by simp) (by simp) ?_;intro c0 w0 Q h0 hQ
 refine WJ [(0,.ptr 0 0)] [(0,.cells [Lb v0])] 1 (by simp) ?_;refine SW trivial [] [none] [] [] [] [] 1 ?_;obtain ⟨v1,v2,v3,h1,hF⟩:=AbK hF;refine CL trivial [] N12 (AdD k _ _ _ _ h1) [] [(3,Iz v1),(4,Sc 1 v2),(5,.bool v3)] [] [(1,.grow (List.map (AV.int .u8) v2))] 2 ?_;refine AW.frz 1 (o := .grow (List.map (AV.int .u8) v2)) (by simp) rfl [(4,Lb v2)] [] ⟨(.l (by simp) (by simp) (by simp) (by simp)),trivial⟩ trivial ?_;refine WJ [(0,.ptr 0 0),(3,Iz v1),(4,Lb v2),(5,.bool v3)] [(0,.cells [Lb v0])] 2 (by simp) ?_;rcases AhG hF with ⟨_,h3⟩ | ⟨_,h2,hF⟩
 ·refine AW.pan Adh [] N2 1 [1] _ rfl (by kernel_rfl) hQ fun K hK=>?_;simp only [msk,List.contains_cons,List.contains_nil,Nat.reduceBEq,Bool.or_false,Bool.or_true,Bool.false_or,Bool.false_eq_true,if_false,if_true,Nat.reduceAdd,Nat.zero_add];try simp
  try simp
  and_intros <;> first | exact hK _ _ _ [] [] (OpP.call rfl _ _ _ rfl 87 [] rfl (by simp) (Abr k _ h3) [] rfl (.cons (.same (by simp)) .nil) (by simp) (by decide)) (by kernel_rfl) | omega | (simp [maxLen] <;> omega)
 ·cases hF
theorem Ab3 (k : Nat) (v0 : (List Int)) (v1 : Int) (hF : Aa7 k v0 v1=some ()) :
 Afd (fun _ => .panicked pch) Try.prog 117 [AV.ptr 0 0,Iz v1] [.cells [Lb v0]] .undef (List.replicate ([.cells [Lb v0]] : List Aan).length none):=by
 unfold Aa7 at hF;refine ArX.enter Try.func117 rfl (by simp) (by simp) (by simp) ?_;intro c0 w0 Q h0 hQ
 refine WJ [(0,.ptr 0 0),(1,Iz v1)] [(0,.cells [Lb v0])] 1 (by simp) ?_;refine SW trivial [] [none] [] [] [] [] 1 ?_;obtain ⟨v2,v3,v4,h1,hF⟩:=AbK hF;refine CL trivial [] N13 (AfJ k _ _ _ _ _ h1) [1] [(5,.str v2),(6,Lb v3),(7,.bool v4)] [] [] 1 ?_;rcases AhG hF with ⟨_,h3⟩ | ⟨_,h2,hF⟩
 ·refine AW.pan Adh [] N2 1 [1] _ rfl (by kernel_rfl) hQ fun K hK=>?_;simp only [msk,List.contains_cons,List.contains_nil,Nat.reduceBEq,Bool.or_false,Bool.or_true,Bool.false_or,Bool.false_eq_true,if_false,if_true,Nat.reduceAdd,Nat.zero_add];try simp
  try simp
  and_intros <;> first | exact hK _ _ _ [] [] (OpP.call rfl _ _ _ rfl 87 [] rfl (by simp) (Abr k _ h3) [] rfl (.cons (.same (by simp)) .nil) (by simp) (by decide)) (by kernel_rfl) | omega | (simp [maxLen] <;> omega)
 ·cases hF
theorem Aeb (k : Nat) (v0 : (List Int)) (v1 : Int) (hF : Abu k v0 v1=some ()) :
 Afd (fun _ => .panicked pch) Try.prog 118 [AV.ptr 0 0,Iz v1] [.cells [Lb v0]] .undef (List.replicate ([.cells [Lb v0]] : List Aan).length none):=by
 unfold Abu at hF;refine ArX.enter Try.func118 rfl (by simp) (by simp) (by simp) ?_;intro c0 w0 Q h0 hQ
 refine WJ [(0,.ptr 0 0),(1,Iz v1)] [(0,.cells [Lb v0])] 1 (by simp) ?_;refine SW trivial [] [none] [] [] [] [] 1 ?_;obtain ⟨v2,v3,v4,h1,hF⟩:=AbK hF;refine CL trivial [] N13 (AfK k _ _ _ _ _ h1) [1] [(5,Sc 1 v2),(6,Sc 2 v3),(7,.bool v4)] [] [(1,Gi v2),(2,.grow (List.map (AV.int .u8) v3))] 3 ?_;refine AW.frz 2 (o := .grow (List.map (AV.int .u8) v3)) (by simp) rfl [(6,Lb v3)] [] ⟨(.l (by simp) (by simp) (by simp) (by simp)),trivial⟩ trivial ?_;refine WJ [(0,.ptr 0 0),(5,Sc 1 v2),(6,Lb v3),(7,.bool v4)] [(0,.cells [Lb v0]),(1,Gi v2)] 3 (by simp) ?_;rcases AhG hF with ⟨_,h3⟩ | ⟨_,h2,hF⟩
 ·refine AW.pan Adh [] N2 1 [1] _ rfl (by kernel_rfl) hQ fun K hK=>?_;simp only [msk,List.contains_cons,List.contains_nil,Nat.reduceBEq,Bool.or_false,Bool.or_true,Bool.false_or,Bool.false_eq_true,if_false,if_true,Nat.reduceAdd,Nat.zero_add];try simp
  try simp
  and_intros <;> first | exact hK _ _ _ [] [] (OpP.call rfl _ _ _ rfl 87 [] rfl (by simp) (Abr k _ h3) [] rfl (.cons (.same (by simp)) .nil) (by simp) (by decide)) (by kernel_rfl) | omega | (simp [maxLen] <;> omega)
 ·cases hF
abbrev Abl  : Aan := .cells [Iz 0,Iz 0,AV.str (ByteArray.mk #[]),Iz 0,Iz 0,Iz 0,Iz 0,Iz 0,AV.lst true true (List.map (AV.int .i64) ([] : List Int)),AV.slc 2 0 3 (([] : List AaD).length) false,AV.str (ByteArray.mk #[]),Iz 0,AV.str (ByteArray.mk #[])]
abbrev AdB  : Aan := .cells [Iz 0,Iz 0,AV.str (ByteArray.mk #[]),Iz 0,Iz 0,Iz 0,Iz 0,Iz 0,AV.lst true true (List.map (AV.int .i64) ([] : List Int)),AV.lst true true (List.map AaD.av ([] : List AaD)),AV.str (ByteArray.mk #[]),Iz 0,AV.str (ByteArray.mk #[])]
theorem Aea (k : Nat) (v0 : (List Int)) (hF : Aac k v0=some ()) :
 Afd (fun _ => .panicked pch) Try.prog 86 [AV.ptr 0 0] [.cells [Lb v0]] .undef (List.replicate ([.cells [Lb v0]] : List Aan).length none):=by
 unfold Aac at hF;refine ArX.enter Try.func86 rfl (by simp) (by simp) (by simp) ?_;intro c0 w0 Q h0 hQ
 refine WJ [(0,.ptr 0 0)] [(0,.cells [Lb v0])] 1 (by simp) ?_;refine SW trivial [] [none] [] [(2,.ptr 1 0)] [] [(1,AdB )] 2 ?_;rcases Aca hF with ⟨_,h2⟩ | ⟨v1,v2,h1,hF⟩
 ·refine AW.pan Adh [] N21 1 [1,2,3,4,5,6,7,8,9,10,11,12,13,14,15,16,17,18,19,20] _ rfl (by kernel_rfl) hQ fun K hK=>?_;simp only [msk,List.contains_cons,List.contains_nil,Nat.reduceBEq,Bool.or_false,Bool.or_true,Bool.false_or,Bool.false_eq_true,if_false,if_true,Nat.reduceAdd,Nat.zero_add];try simp
  try simp
  and_intros <;> first | exact hK _ _ _ [0] [0] (OpP.call rfl _ _ _ rfl 116 [] rfl (by simp) (Aaz k _ h2) [0] rfl (.cons (.same (by simp)) .nil) (by simp) (by decide)) (by kernel_rfl) | omega | (simp [maxLen] <;> omega)
 ·rcases Aca hF with ⟨_,h4⟩ | ⟨v3,v4,h3,hF⟩
  ·refine AW.pan Adh [] N21 3 [3,4,5,6,7,8,9,10,11,12,13,14,15,16,17,18,19,20] _ rfl (by kernel_rfl) hQ fun K hK=>?_;simp only [msk,List.contains_cons,List.contains_nil,Nat.reduceBEq,Bool.or_false,Bool.or_true,Bool.false_or,Bool.false_eq_true,if_false,if_true,Nat.reduceAdd,Nat.zero_add];try simp
   try simp
   and_intros
   try any_goals first | omega | (simp [maxLen] <;> omega)
   refine AaO (AaH k _ _ _ h1) (by simp) [0] [] [0] rfl (.cons (.same (by simp)) .nil) (by simp) (by decide) (by simp) (by simp) (.inl rfl) (by simp) (by simp) ?_;try simp
   and_intros <;> first | exact hK _ _ _ [0] [0] (OpP.call rfl _ _ _ rfl 116 [] rfl (by simp) (Aaz k _ h4) [0] rfl (.cons (.same (by simp)) .nil) (by simp) (by decide)) (by kernel_rfl) | omega | (simp [maxLen] <;> omega)
  ·rcases Aca hF with ⟨_,h6⟩ | ⟨v5,v6,h5,hF⟩
   ·refine AW.pan Adh [] N21 5 [5,6,7,8,9,10,11,12,13,14,15,16,17,18,19,20] _ rfl (by kernel_rfl) hQ fun K hK=>?_;simp only [msk,List.contains_cons,List.contains_nil,Nat.reduceBEq,Bool.or_false,Bool.or_true,Bool.false_or,Bool.false_eq_true,if_false,if_true,Nat.reduceAdd,Nat.zero_add];try simp
    try simp
    and_intros
    try any_goals first | omega | (simp [maxLen] <;> omega)
    refine AaO (AaH k _ _ _ h1) (by simp) [0] [] [0] rfl (.cons (.same (by simp)) .nil) (by simp) (by decide) (by simp) (by simp) (.inl rfl) (by simp) (by simp) ?_;try simp
    and_intros
    try any_goals first | omega | (simp [maxLen] <;> omega)
    refine AaO (AaH k _ _ _ h3) (by simp) [0] [] [0] rfl (.cons (.same (by simp)) .nil) (by simp) (by decide) (by simp) (by simp) (.inl rfl) (by simp) (by simp) ?_;try simp
    and_intros <;> first | exact hK _ _ _ [0] [0] (OpP.call rfl _ _ _ rfl 117 [] rfl (by simp) (Ab3 k _ _ h6) [0] rfl (.cons (.same (by simp)) (.cons (.same (by simp)) .nil)) (by simp) (by decide)) (by kernel_rfl) | omega | (simp [maxLen] <;> omega)
   ·rcases Aca hF with ⟨_,h8⟩ | ⟨v7,v8,h7,hF⟩
    ·refine AW.pan Adh [] N21 7 [7,8,9,10,11,12,13,14,15,16,17,18,19,20] _ rfl (by kernel_rfl) hQ fun K hK=>?_;simp only [msk,List.contains_cons,List.contains_nil,Nat.reduceBEq,Bool.or_false,Bool.or_true,Bool.false_or,Bool.false_eq_true,if_false,if_true,Nat.reduceAdd,Nat.zero_add];try simp
     try simp
     and_intros
     try any_goals first | omega | (simp [maxLen] <;> omega)
     refine AaO (AaH k _ _ _ h1) (by simp) [0] [] [0] rfl (.cons (.same (by simp)) .nil) (by simp) (by decide) (by simp) (by simp) (.inl rfl) (by simp) (by simp) ?_;try simp
     and_intros
     try any_goals first | omega | (simp [maxLen] <;> omega)
     refine AaO (AaH k _ _ _ h3) (by simp) [0] [] [0] rfl (.cons (.same (by simp)) .nil) (by simp) (by decide) (by simp) (by simp) (.inl rfl) (by simp) (by simp) ?_;try simp
     and_intros
     try any_goals first | omega | (simp [maxLen] <;> omega)
     refine AaO (Aau k _ _ _ _ h5) (by simp) [0] [] [0] rfl (.cons (.same (by simp)) (.cons (.same (by simp)) .nil)) (by simp) (by decide) (by simp) (by simp) (.inl rfl) (by simp) (by simp) ?_;try simp
     and_intros <;> first | exact hK _ _ _ [0] [0] (OpP.call rfl _ _ _ rfl 116 [] rfl (by simp) (Aaz k _ h8) [0] rfl (.cons (.same (by simp)) .nil) (by simp) (by decide)) (by kernel_rfl) | omega | (simp [maxLen] <;> omega)
    ·rcases Aca hF with ⟨_,h10⟩ | ⟨v9,v10,h9,hF⟩
     ·refine AW.pan Adh [] N21 9 [9,10,11,12,13,14,15,16,17,18,19,20] _ rfl (by kernel_rfl) hQ fun K hK=>?_;simp only [msk,List.contains_cons,List.contains_nil,Nat.reduceBEq,Bool.or_false,Bool.or_true,Bool.false_or,Bool.false_eq_true,if_false,if_true,Nat.reduceAdd,Nat.zero_add];try simp
      try simp
      and_intros
      try any_goals first | omega | (simp [maxLen] <;> omega)
      refine AaO (AaH k _ _ _ h1) (by simp) [0] [] [0] rfl (.cons (.same (by simp)) .nil) (by simp) (by decide) (by simp) (by simp) (.inl rfl) (by simp) (by simp) ?_;try simp
      and_intros
      try any_goals first | omega | (simp [maxLen] <;> omega)
      refine AaO (AaH k _ _ _ h3) (by simp) [0] [] [0] rfl (.cons (.same (by simp)) .nil) (by simp) (by decide) (by simp) (by simp) (.inl rfl) (by simp) (by simp) ?_;try simp
      and_intros
      try any_goals first | omega | (simp [maxLen] <;> omega)
      refine AaO (Aau k _ _ _ _ h5) (by simp) [0] [] [0] rfl (.cons (.same (by simp)) (.cons (.same (by simp)) .nil)) (by simp) (by decide) (by simp) (by simp) (.inl rfl) (by simp) (by simp) ?_;try simp
      and_intros
      try any_goals first | omega | (simp [maxLen] <;> omega)
      refine AaO (AaH k _ _ _ h7) (by simp) [0] [] [0] rfl (.cons (.same (by simp)) .nil) (by simp) (by decide) (by simp) (by simp) (.inl rfl) (by simp) (by simp) ?_;try simp
      and_intros <;> first | exact hK _ _ _ [0] [0] (OpP.call rfl _ _ _ rfl 116 [] rfl (by simp) (Aaz k _ h10) [0] rfl (.cons (.same (by simp)) .nil) (by simp) (by decide)) (by kernel_rfl) | omega | (simp [maxLen] <;> omega)
     ·rcases Aca hF with ⟨_,h12⟩ | ⟨v11,v12,h11,hF⟩
      ·refine AW.pan Adh [] N21 11 [11,12,13,14,15,16,17,18,19,20] _ rfl (by kernel_rfl) hQ fun K hK=>?_;simp only [msk,List.contains_cons,List.contains_nil,Nat.reduceBEq,Bool.or_false,Bool.or_true,Bool.false_or,Bool.false_eq_true,if_false,if_true,Nat.reduceAdd,Nat.zero_add];try simp
       try simp
       and_intros
       try any_goals first | omega | (simp [maxLen] <;> omega)
       refine AaO (AaH k _ _ _ h1) (by simp) [0] [] [0] rfl (.cons (.same (by simp)) .nil) (by simp) (by decide) (by simp) (by simp) (.inl rfl) (by simp) (by simp) ?_;try simp
       and_intros
       try any_goals first | omega | (simp [maxLen] <;> omega)
       refine AaO (AaH k _ _ _ h3) (by simp) [0] [] [0] rfl (.cons (.same (by simp)) .nil) (by simp) (by decide) (by simp) (by simp) (.inl rfl) (by simp) (by simp) ?_;try simp
       and_intros
       try any_goals first | omega | (simp [maxLen] <;> omega)
       refine AaO (Aau k _ _ _ _ h5) (by simp) [0] [] [0] rfl (.cons (.same (by simp)) (.cons (.same (by simp)) .nil)) (by simp) (by decide) (by simp) (by simp) (.inl rfl) (by simp) (by simp) ?_;try simp
       and_intros
       try any_goals first | omega | (simp [maxLen] <;> omega)
       refine AaO (AaH k _ _ _ h7) (by simp) [0] [] [0] rfl (.cons (.same (by simp)) .nil) (by simp) (by decide) (by simp) (by simp) (.inl rfl) (by simp) (by simp) ?_;try simp
       and_intros
       try any_goals first | omega | (simp [maxLen] <;> omega)
       refine AaO (AaH k _ _ _ h9) (by simp) [0] [] [0] rfl (.cons (.same (by simp)) .nil) (by simp) (by decide) (by simp) (by simp) (.inl rfl) (by simp) (by simp) ?_;try simp
       and_intros <;> first | exact hK _ _ _ [0] [0] (OpP.call rfl _ _ _ rfl 116 [] rfl (by simp) (Aaz k _ h12) [0] rfl (.cons (.same (by simp)) .nil) (by simp) (by decide)) (by kernel_rfl) | omega | (simp [maxLen] <;> omega)
      ·rcases Aca hF with ⟨_,h14⟩ | ⟨v13,v14,h13,hF⟩
       ·refine AW.pan Adh [] N21 13 [13,14,15,16,17,18,19,20] _ rfl (by kernel_rfl) hQ fun K hK=>?_;simp only [msk,List.contains_cons,List.contains_nil,Nat.reduceBEq,Bool.or_false,Bool.or_true,Bool.false_or,Bool.false_eq_true,if_false,if_true,Nat.reduceAdd,Nat.zero_add];try simp
        try simp
        and_intros
        try any_goals first | omega | (simp [maxLen] <;> omega)
        refine AaO (AaH k _ _ _ h1) (by simp) [0] [] [0] rfl (.cons (.same (by simp)) .nil) (by simp) (by decide) (by simp) (by simp) (.inl rfl) (by simp) (by simp) ?_;try simp
        and_intros
        try any_goals first | omega | (simp [maxLen] <;> omega)
        refine AaO (AaH k _ _ _ h3) (by simp) [0] [] [0] rfl (.cons (.same (by simp)) .nil) (by simp) (by decide) (by simp) (by simp) (.inl rfl) (by simp) (by simp) ?_;try simp
        and_intros
        try any_goals first | omega | (simp [maxLen] <;> omega)
        refine AaO (Aau k _ _ _ _ h5) (by simp) [0] [] [0] rfl (.cons (.same (by simp)) (.cons (.same (by simp)) .nil)) (by simp) (by decide) (by simp) (by simp) (.inl rfl) (by simp) (by simp) ?_;try simp
        and_intros
        try any_goals first | omega | (simp [maxLen] <;> omega)
        refine AaO (AaH k _ _ _ h7) (by simp) [0] [] [0] rfl (.cons (.same (by simp)) .nil) (by simp) (by decide) (by simp) (by simp) (.inl rfl) (by simp) (by simp) ?_;try simp
        and_intros
        try any_goals first | omega | (simp [maxLen] <;> omega)
        refine AaO (AaH k _ _ _ h9) (by simp) [0] [] [0] rfl (.cons (.same (by simp)) .nil) (by simp) (by decide) (by simp) (by simp) (.inl rfl) (by simp) (by simp) ?_;try simp
        and_intros
        try any_goals first | omega | (simp [maxLen] <;> omega)
        refine AaO (AaH k _ _ _ h11) (by simp) [0] [] [0] rfl (.cons (.same (by simp)) .nil) (by simp) (by decide) (by simp) (by simp) (.inl rfl) (by simp) (by simp) ?_;try simp
        and_intros <;> first | exact hK _ _ _ [0] [0] (OpP.call rfl _ _ _ rfl 116 [] rfl (by simp) (Aaz k _ h14) [0] rfl (.cons (.same (by simp)) .nil) (by simp) (by decide)) (by kernel_rfl) | omega | (simp [maxLen] <;> omega)
       ·rcases Aca hF with ⟨_,h16⟩ | ⟨v15,v16,h15,hF⟩
        ·refine AW.pan Adh [] N21 15 [15,16,17,18,19,20] _ rfl (by kernel_rfl) hQ fun K hK=>?_;simp only [msk,List.contains_cons,List.contains_nil,Nat.reduceBEq,Bool.or_false,Bool.or_true,Bool.false_or,Bool.false_eq_true,if_false,if_true,Nat.reduceAdd,Nat.zero_add];try simp
         try simp
         and_intros
         try any_goals first | omega | (simp [maxLen] <;> omega)
         refine AaO (AaH k _ _ _ h1) (by simp) [0] [] [0] rfl (.cons (.same (by simp)) .nil) (by simp) (by decide) (by simp) (by simp) (.inl rfl) (by simp) (by simp) ?_;try simp
         and_intros
         try any_goals first | omega | (simp [maxLen] <;> omega)
         refine AaO (AaH k _ _ _ h3) (by simp) [0] [] [0] rfl (.cons (.same (by simp)) .nil) (by simp) (by decide) (by simp) (by simp) (.inl rfl) (by simp) (by simp) ?_;try simp
         and_intros
         try any_goals first | omega | (simp [maxLen] <;> omega)
         refine AaO (Aau k _ _ _ _ h5) (by simp) [0] [] [0] rfl (.cons (.same (by simp)) (.cons (.same (by simp)) .nil)) (by simp) (by decide) (by simp) (by simp) (.inl rfl) (by simp) (by simp) ?_;try simp
         and_intros
         try any_goals first | omega | (simp [maxLen] <;> omega)
         refine AaO (AaH k _ _ _ h7) (by simp) [0] [] [0] rfl (.cons (.same (by simp)) .nil) (by simp) (by decide) (by simp) (by simp) (.inl rfl) (by simp) (by simp) ?_;try simp
         and_intros
         try any_goals first | omega | (simp [maxLen] <;> omega)
         refine AaO (AaH k _ _ _ h9) (by simp) [0] [] [0] rfl (.cons (.same (by simp)) .nil) (by simp) (by decide) (by simp) (by simp) (.inl rfl) (by simp) (by simp) ?_;try simp
         and_intros
         try any_goals first | omega | (simp [maxLen] <;> omega)
         refine AaO (AaH k _ _ _ h11) (by simp) [0] [] [0] rfl (.cons (.same (by simp)) .nil) (by simp) (by decide) (by simp) (by simp) (.inl rfl) (by simp) (by simp) ?_;try simp
         and_intros
         try any_goals first | omega | (simp [maxLen] <;> omega)
         refine AaO (AaH k _ _ _ h13) (by simp) [0] [] [0] rfl (.cons (.same (by simp)) .nil) (by simp) (by decide) (by simp) (by simp) (.inl rfl) (by simp) (by simp) ?_;try simp
         and_intros <;> first | exact hK _ _ _ [0] [0] (OpP.call rfl _ _ _ rfl 116 [] rfl (by simp) (Aaz k _ h16) [0] rfl (.cons (.same (by simp)) .nil) (by simp) (by decide)) (by kernel_rfl) | omega | (simp [maxLen] <;> omega)
        ·rcases Aca hF with ⟨_,h18⟩ | ⟨v17,v18,h17,hF⟩
         ·refine AW.pan Adh [] N21 17 [17,18,19,20] _ rfl (by kernel_rfl) hQ fun K hK=>?_;simp only [msk,List.contains_cons,List.contains_nil,Nat.reduceBEq,Bool.or_false,Bool.or_true,Bool.false_or,Bool.false_eq_true,if_false,if_true,Nat.reduceAdd,Nat.zero_add];try simp
          try simp
          and_intros
          try any_goals first | omega | (simp [maxLen] <;> omega)
          refine AaO (AaH k _ _ _ h1) (by simp) [0] [] [0] rfl (.cons (.same (by simp)) .nil) (by simp) (by decide) (by simp) (by simp) (.inl rfl) (by simp) (by simp) ?_;try simp
          and_intros
          try any_goals first | omega | (simp [maxLen] <;> omega)
          refine AaO (AaH k _ _ _ h3) (by simp) [0] [] [0] rfl (.cons (.same (by simp)) .nil) (by simp) (by decide) (by simp) (by simp) (.inl rfl) (by simp) (by simp) ?_;try simp
          and_intros
          try any_goals first | omega | (simp [maxLen] <;> omega)
          refine AaO (Aau k _ _ _ _ h5) (by simp) [0] [] [0] rfl (.cons (.same (by simp)) (.cons (.same (by simp)) .nil)) (by simp) (by decide) (by simp) (by simp) (.inl rfl) (by simp) (by simp) ?_;try simp
          and_intros
          try any_goals first | omega | (simp [maxLen] <;> omega)
          refine AaO (AaH k _ _ _ h7) (by simp) [0] [] [0] rfl (.cons (.same (by simp)) .nil) (by simp) (by decide) (by simp) (by simp) (.inl rfl) (by simp) (by simp) ?_;try simp
          and_intros
          try any_goals first | omega | (simp [maxLen] <;> omega)
          refine AaO (AaH k _ _ _ h9) (by simp) [0] [] [0] rfl (.cons (.same (by simp)) .nil) (by simp) (by decide) (by simp) (by simp) (.inl rfl) (by simp) (by simp) ?_;try simp
          and_intros
          try any_goals first | omega | (simp [maxLen] <;> omega)
          refine AaO (AaH k _ _ _ h11) (by simp) [0] [] [0] rfl (.cons (.same (by simp)) .nil) (by simp) (by decide) (by simp) (by simp) (.inl rfl) (by simp) (by simp) ?_;try simp
          and_intros
          try any_goals first | omega | (simp [maxLen] <;> omega)
          refine AaO (AaH k _ _ _ h13) (by simp) [0] [] [0] rfl (.cons (.same (by simp)) .nil) (by simp) (by decide) (by simp) (by simp) (.inl rfl) (by simp) (by simp) ?_;try simp
          and_intros
          try any_goals first | omega | (simp [maxLen] <;> omega)
          refine AaO (AaH k _ _ _ h15) (by simp) [0] [] [0] rfl (.cons (.same (by simp)) .nil) (by simp) (by decide) (by simp) (by simp) (.inl rfl) (by simp) (by simp) ?_;try simp
          and_intros <;> first | exact hK _ _ _ [0] [0] (OpP.call rfl _ _ _ rfl 118 [] rfl (by simp) (Aeb k _ _ h18) [0] rfl (.cons (.same (by simp)) (.cons (.same (by simp)) .nil)) (by simp) (by decide)) (by kernel_rfl) | omega | (simp [maxLen] <;> omega)
         ·refine SR [] N21 fun _ _ g r=>?_;try simp
          and_intros
          try any_goals first | omega | (simp [maxLen] <;> omega)
          refine AaO (AaH k _ _ _ h1) (by simp) [0] [] [0] rfl (.cons (.same (by simp)) .nil) (by simp) (by decide) (by simp) (by simp) (.inl rfl) (by simp) (by simp) ?_;try simp
          and_intros
          try any_goals first | omega | (simp [maxLen] <;> omega)
          refine AaO (AaH k _ _ _ h3) (by simp) [0] [] [0] rfl (.cons (.same (by simp)) .nil) (by simp) (by decide) (by simp) (by simp) (.inl rfl) (by simp) (by simp) ?_;try simp
          and_intros
          try any_goals first | omega | (simp [maxLen] <;> omega)
          refine AaO (Aau k _ _ _ _ h5) (by simp) [0] [] [0] rfl (.cons (.same (by simp)) (.cons (.same (by simp)) .nil)) (by simp) (by decide) (by simp) (by simp) (.inl rfl) (by simp) (by simp) ?_;try simp
          and_intros
          try any_goals first | omega | (simp [maxLen] <;> omega)
          refine AaO (AaH k _ _ _ h7) (by simp) [0] [] [0] rfl (.cons (.same (by simp)) .nil) (by simp) (by decide) (by simp) (by simp) (.inl rfl) (by simp) (by simp) ?_;try simp
          and_intros
          try any_goals first | omega | (simp [maxLen] <;> omega)
          refine AaO (AaH k _ _ _ h9) (by simp) [0] [] [0] rfl (.cons (.same (by simp)) .nil) (by simp) (by decide) (by simp) (by simp) (.inl rfl) (by simp) (by simp) ?_;try simp
          and_intros
          try any_goals first | omega | (simp [maxLen] <;> omega)
          refine AaO (AaH k _ _ _ h11) (by simp) [0] [] [0] rfl (.cons (.same (by simp)) .nil) (by simp) (by decide) (by simp) (by simp) (.inl rfl) (by simp) (by simp) ?_;try simp
          and_intros
          try any_goals first | omega | (simp [maxLen] <;> omega)
          refine AaO (AaH k _ _ _ h13) (by simp) [0] [] [0] rfl (.cons (.same (by simp)) .nil) (by simp) (by decide) (by simp) (by simp) (.inl rfl) (by simp) (by simp) ?_;try simp
          and_intros
          try any_goals first | omega | (simp [maxLen] <;> omega)
          refine AaO (AaH k _ _ _ h15) (by simp) [0] [] [0] rfl (.cons (.same (by simp)) .nil) (by simp) (by decide) (by simp) (by simp) (.inl rfl) (by simp) (by simp) ?_;try simp
          and_intros
          try any_goals first | omega | (simp [maxLen] <;> omega)
          refine AaO (AdV k _ _ _ _ h17) (by simp) [0] [] [0] rfl (.cons (.same (by simp)) (.cons (.same (by simp)) .nil)) (by simp) (by decide) (by simp) (by simp) (.inl rfl) (by simp) (by simp) ?_;refine TL trivial g r [] [(3,.ptr 3 0)] [0] [(0,.cells [Lb v18]),(2,Gi v17),(3,.cells [Iz v1,Iz v3,AV.str v5,Iz v7,Iz v9,Iz v11,Iz v13,Iz v15,Sc 2 v17,AV.lst true true (List.map AaD.av ([] : List AaD)),AV.str (ByteArray.mk #[]),Iz 0,AV.str (ByteArray.mk #[])])] 4 ?_;refine AW.frz 2 (o:=Gi v17) (by simp) rfl [] [(3,.cells [Iz v1,Iz v3,AV.str v5,Iz v7,Iz v9,Iz v11,Iz v13,Iz v15,Lz v17,AV.lst true true (List.map AaD.av ([] : List AaD)),AV.str (ByteArray.mk #[]),Iz 0,AV.str (ByteArray.mk #[])])] trivial ⟨⟨by simp,Aan.cells [Iz v1,Iz v3,AV.str v5,Iz v7,Iz v9,Iz v11,Iz v13,Iz v15,Sc 2 v17,AV.lst true true (List.map AaD.av ([] : List AaD)),AV.str (ByteArray.mk #[]),Iz 0,AV.str (ByteArray.mk #[])],by simp,(.mk (.cons (.same _) (.cons (.same _) (.cons (.same _) (.cons (.same _) (.cons (.same _) (.cons (.same _) (.cons (.same _) (.cons (.same _) (.cons (.l (by simp) (by simp) (by simp) (by simp)) (.cons (.same _) (.cons (.same _) (.cons (.same _) (.cons (.same _) .nil))))))))))))))⟩,trivial⟩ ?_;refine WJ [(0,.ptr 0 0),(2,.ptr 1 0),(3,.ptr 3 0)] [(0,.cells [Lb v18]),(1,AdB ),(3,.cells [Iz v1,Iz v3,AV.str v5,Iz v7,Iz v9,Iz v11,Iz v13,Iz v15,Lz v17,AV.lst true true (List.map AaD.av ([] : List AaD)),AV.str (ByteArray.mk #[]),Iz 0,AV.str (ByteArray.mk #[])])] 4 (by simp) ?_;rcases Aca hF with ⟨_,h29⟩ | ⟨v19,v20,h28,hF⟩
          ·refine AW.pan Adh [] N3 1 [1,2] _ rfl (by kernel_rfl) hQ fun K hK=>?_;simp only [msk,List.contains_cons,List.contains_nil,Nat.reduceBEq,Bool.or_false,Bool.or_true,Bool.false_or,Bool.false_eq_true,if_false,if_true,Nat.reduceAdd,Nat.zero_add];try simp
           try simp
           and_intros <;> first | exact hK _ _ _ [0] [0] (OpP.call rfl _ _ _ rfl 116 [] rfl (by simp) (Aaz k _ h29) [0] rfl (.cons (.same (by simp)) .nil) (by simp) (by decide)) (by kernel_rfl) | omega | (simp [maxLen] <;> omega)
          ·refine SR [] N3 fun _ _ g r=>?_;try simp
           and_intros
           try any_goals first | omega | (simp [maxLen] <;> omega)
           refine AaO (AaH k _ _ _ h28) (by simp) [0] [] [0] rfl (.cons (.same (by simp)) .nil) (by simp) (by decide) (by simp) (by simp) (.inl rfl) (by simp) (by simp) ?_;refine TL trivial g r [] [(4,Iz v19)] [0] [(0,.cells [Lb v20])] 4 ?_;obtain ⟨v21,h31,hF⟩:=AaG hF;rcases AhG hF with ⟨_,h34⟩ | ⟨_,h33,hF⟩
           ·refine AW.pan Adh [] N3 2 [2] _ rfl (by kernel_rfl) hQ fun K hK=>?_;simp only [msk,List.contains_cons,List.contains_nil,Nat.reduceBEq,Bool.or_false,Bool.or_true,Bool.false_or,Bool.false_eq_true,if_false,if_true,Nat.reduceAdd,Nat.zero_add];try simp
            try simp
            and_intros
            try any_goals first | omega | (simp [maxLen] <;> omega)
            refine AC (Abj k _ _ _ _ h31) (.cons (.same (by simp)) (.cons (.same (by simp)) (.cons (.same (by simp)) .nil))) ?_;try simp
            and_intros <;> first | exact hK _ _ _ [] [] (OpP.call rfl _ _ _ rfl 87 [] rfl (by simp) (Abr k _ h34) [] rfl (.cons (.same (by simp)) .nil) (by simp) (by decide)) (by kernel_rfl) | omega | (simp [maxLen] <;> omega)
           ·refine SR [] N3 fun _ _ g r=>?_;try simp
            and_intros
            try any_goals first | omega | (simp [maxLen] <;> omega)
            refine AC (Abj k _ _ _ _ h31) (.cons (.same (by simp)) (.cons (.same (by simp)) (.cons (.same (by simp)) .nil))) ?_;try simp
            and_intros
            try any_goals first | omega | (simp [maxLen] <;> omega)
            refine AC (Abx k _ h33) (.cons (.same (by simp)) .nil) ?_;refine TL trivial g r [] [] [] [] 4 ?_;refine AW.seq fun K0 hK0=>?_;refine SW trivial [] N2 [4] [(29,Iz v19),(30,Iz 0)] [] [] 4 ?_;refine AW.block ?_;refine AW.ownC 1 9 3 true (cs:=[Iz 0,Iz 0,AV.str (ByteArray.mk #[]),Iz 0,Iz 0,Iz 0,Iz 0,Iz 0,AV.lst true true (List.map (AV.int .i64) ([] : List Int)),AV.lst true true (List.map AaD.av ([] : List AaD)),AV.str (ByteArray.mk #[]),Iz 0,AV.str (ByteArray.mk #[])]) (by simp) (by simp) ?_;refine AW.ownC 3 9 3 true (cs:=[Iz v1,Iz v3,AV.str v5,Iz v7,Iz v9,Iz v11,Iz v13,Iz v15,Lz v17,AV.lst true true (List.map AaD.av ([] : List AaD)),AV.str (ByteArray.mk #[]),Iz 0,AV.str (ByteArray.mk #[])]) (by simp) (by simp) ?_;refine AW.rnm (m:=1) h0 [(0,0),(1,1),(2,4),(3,3),(4,5)] [(0,.ptr 0 0),(2,.ptr 1 0),(3,.ptr 3 0),(29,Iz v19),(30,Iz 0)] [(0,.cells [Lb v20]),(1,Abl ),(2,.grow (AaM (List.map AaD.av ([] : List AaD)))),(3,.cells [Iz v1,Iz v3,AV.str v5,Iz v7,Iz v9,Iz v11,Iz v13,Iz v15,Lz v17,AV.slc 4 0 3 (([] : List AaD).length) false,AV.str (ByteArray.mk #[]),Iz 0,AV.str (ByteArray.mk #[])]),(4,.grow (AaM (List.map AaD.av ([] : List AaD))))] 5 (by decide) (by decide) (by decide) rfl (by simp) (by simp) ?_;refine AW.loopF (α:=(Int×(List Int)×(List AaD))) (fun n (v22,v23,v24)=>Aac.L1 k v19 n v22 v23 v24=some ()) (fun (v22,v23,v24)=>[(0,.ptr 0 0),(2,.ptr 1 0),(3,.ptr 3 0),(29,Iz v19),(30,Iz v22)]) (fun (v22,v23,v24)=>[(0,.cells [Lb v23]),(1,Abl ),(2,.grow (AaM (List.map AaD.av ([] : List AaD)))),(3,.cells [Iz v1,Iz v3,AV.str v5,Iz v7,Iz v9,Iz v11,Iz v13,Iz v15,Lz v17,AV.slc 4 0 3 v24.length false,AV.str (ByteArray.mk #[]),Iz 0,AV.str (ByteArray.mk #[])]),(4,.grow (AaM (List.map AaD.av v24)))]) 5 k ((0,v20,([] : List AaD))) hF (by simp) (by simp) (by simp) ?_;rintro (_|n1) ⟨v22,v23,v24⟩ hF K1 hK1
            ·try dsimp only at hF
             rw [Aac.L1] at hF; cases hF
            try dsimp only at hF
            rw [Aac.L1] at hF;refine SW trivial [] [none] [] [(31,.bool (decide (v22<v19)))] [] [] 5 ?_;refine AW.seq fun K2 hK2=>?_;rcases IFo hF with ⟨h37,hF⟩|⟨h37,hF⟩
            ·have h37_:=h37;try simp at h37_
             refine CT (by simp [h37,h37_] <;> omega) ?_;refine AW.skip (hK2 _ _ _ ?_);refine AW.seq fun K3 hK3=>?_;refine AW.block ?_;rcases Aca hF with ⟨_,h39⟩ | ⟨v25,v26,h38,hF⟩
             ·refine AW.panE Adh [] N13 3 [3,5,7,8,9,10,11,12] _ rfl (by kernel_rfl) hQ fun K hK=>?_;simp only [msk,List.contains_cons,List.contains_nil,Nat.reduceBEq,Bool.or_false,Bool.or_true,Bool.false_or,Bool.false_eq_true,if_false,if_true,Nat.reduceAdd,Nat.zero_add];try simp [h37,h37_]
              try simp [h37,h37_]
              and_intros <;> first | exact hK _ _ _ [0] [0] (OpP.call rfl _ _ _ rfl 116 [] rfl (by simp) (Aaz k _ h39) [0] rfl (.cons (.same (by simp [h37,h37_])) .nil) (by simp [h37,h37_]) (by decide)) (by kernel_rfl) | omega | (simp [h37,h37_,maxLen] <;> omega)
             ·rcases Aca hF with ⟨_,h41⟩ | ⟨v27,v28,h40,hF⟩
              ·refine AW.panE Adh [] N13 5 [5,7,8,9,10,11,12] _ rfl (by kernel_rfl) hQ fun K hK=>?_;simp only [msk,List.contains_cons,List.contains_nil,Nat.reduceBEq,Bool.or_false,Bool.or_true,Bool.false_or,Bool.false_eq_true,if_false,if_true,Nat.reduceAdd,Nat.zero_add];try simp [h37,h37_]
               try simp [h37,h37_]
               and_intros
               try any_goals first | omega | (simp [h37,h37_,maxLen] <;> omega)
               refine AaO (AaH k _ _ _ h38) (by simp) [0] [] [0] rfl (.cons (.same (by simp [h37,h37_])) .nil) (by simp [h37,h37_]) (by decide) (by simp) (by simp) (.inl rfl) (by simp) (by simp) ?_;try simp [h37,h37_]
               and_intros <;> first | exact hK _ _ _ [0] [0] (OpP.call rfl _ _ _ rfl 116 [] rfl (by simp) (Aaz k _ h41) [0] rfl (.cons (.same (by simp [h37,h37_])) .nil) (by simp [h37,h37_]) (by decide)) (by kernel_rfl) | omega | (simp [h37,h37_,maxLen] <;> omega)
              ·rcases Aca hF with ⟨_,h43⟩ | ⟨v29,v30,h42,hF⟩
               ·refine AW.panE Adh [] N13 7 [7,8,9,10,11,12] _ rfl (by kernel_rfl) hQ fun K hK=>?_;simp only [msk,List.contains_cons,List.contains_nil,Nat.reduceBEq,Bool.or_false,Bool.or_true,Bool.false_or,Bool.false_eq_true,if_false,if_true,Nat.reduceAdd,Nat.zero_add];try simp [h37,h37_]
                try simp [h37,h37_]
                and_intros
                try any_goals first | omega | (simp [h37,h37_,maxLen] <;> omega)
                refine AaO (AaH k _ _ _ h38) (by simp) [0] [] [0] rfl (.cons (.same (by simp [h37,h37_])) .nil) (by simp [h37,h37_]) (by decide) (by simp) (by simp) (.inl rfl) (by simp) (by simp) ?_;try simp [h37,h37_]
                and_intros
                try any_goals first | omega | (simp [h37,h37_,maxLen] <;> omega)
                refine AaO (AaH k _ _ _ h40) (by simp) [0] [] [0] rfl (.cons (.same (by simp [h37,h37_])) .nil) (by simp [h37,h37_]) (by decide) (by simp) (by simp) (.inl rfl) (by simp) (by simp) ?_;try simp [h37,h37_]
                and_intros <;> first | exact hK _ _ _ [0] [0] (OpP.call rfl _ _ _ rfl 117 [] rfl (by simp) (Ab3 k _ _ h43) [0] rfl (.cons (.same (by simp [h37,h37_])) (.cons (.same (by simp [h37,h37_])) .nil)) (by simp [h37,h37_]) (by decide)) (by kernel_rfl) | omega | (simp [h37,h37_,maxLen] <;> omega)
               ·refine RG [] N13 fun _ _ g r=>?_;try simp [h37,h37_]
                and_intros
                try any_goals first | omega | (simp [h37,h37_,maxLen] <;> omega)
                refine AaO (AaH k _ _ _ h38) (by simp) [0] [] [0] rfl (.cons (.same (by simp [h37,h37_])) .nil) (by simp [h37,h37_]) (by decide) (by simp) (by simp) (.inl rfl) (by simp) (by simp) ?_;try simp [h37,h37_]
                and_intros
                try any_goals first | omega | (simp [h37,h37_,maxLen] <;> omega)
                refine AaO (AaH k _ _ _ h40) (by simp) [0] [] [0] rfl (.cons (.same (by simp [h37,h37_])) .nil) (by simp [h37,h37_]) (by decide) (by simp) (by simp) (.inl rfl) (by simp) (by simp) ?_;try simp [h37,h37_]
                and_intros
                try any_goals first | omega | (simp [h37,h37_,maxLen] <;> omega)
                refine AaO (Aau k _ _ _ _ h42) (by simp) [0] [] [0] rfl (.cons (.same (by simp [h37,h37_])) (.cons (.same (by simp [h37,h37_])) .nil)) (by simp [h37,h37_]) (by decide) (by simp) (by simp) (.inl rfl) (by simp) (by simp) ?_;obtain ⟨h47,hF⟩:=AaP hF;have h47_:=h47;try simp at h47_
                have F1:=A3 h37 h37_ h47;try simp [F1]
                and_intros <;> first | exact GK g | apply r | omega | (simp [maxLen,F1] <;> omega)
                refine hK3 _ _ _ ?_;refine WK [(0,.ptr 0 0),(2,.ptr 1 0),(3,.ptr 3 0),(29,Iz v19),(30,Iz v22)] [(0,.cells [Lb v30]),(1,Abl ),(2,.grow (AaM (List.map AaD.av ([] : List AaD)))),(3,.cells [Iz v1,Iz v3,AV.str v5,Iz v7,Iz v9,Iz v11,Iz v13,Iz v15,Lz v17,AV.slc 5 0 3 ((v24++([(AaD.mk v25 v27 v29)] : List AaD)).length) false,AV.str (ByteArray.mk #[]),Iz 0,AV.str (ByteArray.mk #[])]),(5,.grow (AaM (List.map AaD.av (v24++([(AaD.mk v25 v27 v29)] : List AaD)))))] 6 (by simp [F1]) (by simp [F1] <;> omega) ?_;refine RG [] N2 fun _ _ g r=>?_;try simp [F1]
                and_intros <;> first | exact GK g | apply r | omega | (simp [maxLen,F1] <;> omega)
                refine hK1 _ _ _ ?_;refine Can.weak [(0,.ptr 0 0),(2,.ptr 1 0),(3,.ptr 3 0),(29,Iz v19),(30,Iz (IntKind.wrap .i64 (v22+1)))] [(0,.cells [Lb v30]),(1,Abl ),(2,.grow (AaM (List.map AaD.av ([] : List AaD)))),(3,.cells [Iz v1,Iz v3,AV.str v5,Iz v7,Iz v9,Iz v11,Iz v13,Iz v15,Lz v17,AV.slc 5 0 3 ((v24++([(AaD.mk v25 v27 v29)] : List AaD)).length) false,AV.str (ByteArray.mk #[]),Iz 0,AV.str (ByteArray.mk #[])]),(5,.grow (AaM (List.map AaD.av (v24++([(AaD.mk v25 v27 v29)] : List AaD)))))] 6 (by simp [F1]) (by simp [F1] <;> omega) (by simp) ?_;refine Can.ren (m:=1) h0 [(0,0),(1,1),(2,2),(3,3),(4,5)] [(0,.ptr 0 0),(2,.ptr 1 0),(3,.ptr 3 0),(29,Iz v19),(30,Iz (IntKind.wrap .i64 (v22+1)))] [(0,.cells [Lb v30]),(1,Abl ),(2,.grow (AaM (List.map AaD.av ([] : List AaD)))),(3,.cells [Iz v1,Iz v3,AV.str v5,Iz v7,Iz v9,Iz v11,Iz v13,Iz v15,Lz v17,AV.slc 4 0 3 ((v24++([(AaD.mk v25 v27 v29)] : List AaD)).length) false,AV.str (ByteArray.mk #[]),Iz 0,AV.str (ByteArray.mk #[])]),(4,.grow (AaM (List.map AaD.av (v24++([(AaD.mk v25 v27 v29)] : List AaD)))))] 5 (by decide) (by decide) (by decide) rfl (by simp [F1]) (by simp [F1]) ?_;exact NX (k':=n1) ((IntKind.wrap .i64 (v22+1),v30,v24++([(AaD.mk v25 v27 v29)] : List AaD))) hF (by simp [F1]) (by simp [F1])
            ·have h37_:=h37;try simp at h37_
             refine CF (by simp [h37,h37_] <;> omega) ?_;refine AW.exit ?_;try simp
             refine hK0 _ _ _ ?_;rcases Aca hF with ⟨_,h49⟩ | ⟨v31,v32,h48,hF⟩
             ·refine AW.pan Adh [] N4 1 [1,2,3] _ rfl (by kernel_rfl) hQ fun K hK=>?_;simp only [msk,List.contains_cons,List.contains_nil,Nat.reduceBEq,Bool.or_false,Bool.or_true,Bool.false_or,Bool.false_eq_true,if_false,if_true,Nat.reduceAdd,Nat.zero_add];try simp [h37,h37_]
              try simp [h37,h37_]
              and_intros <;> first | exact hK _ _ _ [0] [0] (OpP.call rfl _ _ _ rfl 117 [] rfl (by simp) (Ab3 k _ _ h49) [0] rfl (.cons (.same (by simp [h37,h37_])) (.cons (.same (by simp [h37,h37_])) .nil)) (by simp [h37,h37_]) (by decide)) (by kernel_rfl) | omega | (simp [h37,h37_,maxLen] <;> omega)
             ·refine SR [] N4 fun _ _ g r=>?_;try simp [h37,h37_]
              and_intros
              try any_goals first | omega | (simp [h37,h37_,maxLen] <;> omega)
              refine AaO (Aau k _ _ _ _ h48) (by simp) [0] [] [0] rfl (.cons (.same (by simp [h37,h37_])) (.cons (.same (by simp [h37,h37_])) .nil)) (by simp [h37,h37_]) (by decide) (by simp) (by simp) (.inl rfl) (by simp) (by simp) ?_;refine TL (A2 h37 h37_) g r [29,30] [] [0,3] [(0,.cells [Lb v32]),(3,.cells [Iz v1,Iz v3,AV.str v5,Iz v7,Iz v9,Iz v11,Iz v13,Iz v15,Lz v17,AV.slc 4 0 3 v24.length false,AV.str v31,Iz 0,AV.str (ByteArray.mk #[])])] 5 ?_;rcases Aca hF with ⟨_,h52⟩ | ⟨v33,v34,h51,hF⟩
              ·refine AW.pan Adh [] N7 1 [1,2,3,4,5,6] _ rfl (by kernel_rfl) hQ fun K hK=>?_;simp only [msk,List.contains_cons,List.contains_nil,Nat.reduceBEq,Bool.or_false,Bool.or_true,Bool.false_or,Bool.false_eq_true,if_false,if_true,Nat.reduceAdd,Nat.zero_add];try simp [h37,h37_]
               try simp [h37,h37_]
               and_intros <;> first | exact hK _ _ _ [0] [0] (OpP.call rfl _ _ _ rfl 116 [] rfl (by simp) (Aaz k _ h52) [0] rfl (.cons (.same (by simp [h37,h37_])) .nil) (by simp [h37,h37_]) (by decide)) (by kernel_rfl) | omega | (simp [h37,h37_,maxLen] <;> omega)
              ·rcases Aca hF with ⟨_,h54⟩ | ⟨v35,v36,h53,hF⟩
               ·refine AW.pan Adh [] N7 3 [3,4,5,6] _ rfl (by kernel_rfl) hQ fun K hK=>?_;simp only [msk,List.contains_cons,List.contains_nil,Nat.reduceBEq,Bool.or_false,Bool.or_true,Bool.false_or,Bool.false_eq_true,if_false,if_true,Nat.reduceAdd,Nat.zero_add];try simp [h37,h37_]
                try simp [h37,h37_]
                and_intros
                try any_goals first | omega | (simp [h37,h37_,maxLen] <;> omega)
                refine AaO (AaH k _ _ _ h51) (by simp) [0] [] [0] rfl (.cons (.same (by simp [h37,h37_])) .nil) (by simp [h37,h37_]) (by decide) (by simp) (by simp) (.inl rfl) (by simp) (by simp) ?_;try simp [h37,h37_]
                and_intros <;> first | exact hK _ _ _ [0] [0] (OpP.call rfl _ _ _ rfl 117 [] rfl (by simp) (Ab3 k _ _ h54) [0] rfl (.cons (.same (by simp [h37,h37_])) (.cons (.same (by simp [h37,h37_])) .nil)) (by simp [h37,h37_]) (by decide)) (by kernel_rfl) | omega | (simp [h37,h37_,maxLen] <;> omega)
               ·cases hF
end Go.TF
