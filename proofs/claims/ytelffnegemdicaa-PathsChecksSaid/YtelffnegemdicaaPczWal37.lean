import Derived.Test.YtelffnegemdicaaPczWal30
import Derived.Test.YtelffnegemdicaaPczWal35
import Derived.Test.YtelffnegemdicaaPczWal36
set_option linter.unusedVariables false
set_option linter.unusedSimpArgs false
set_option maxRecDepth 100000
set_option maxHeartbeats 4000000
namespace Go.TF
open Go Go.Abs Go.Proofs Go.Proofs.YtelffnegemdicaaPcT
theorem Ajm (k : Nat) (v0 : Int) (v1 : (List AaA)) (v2 : (List Int)) (v3 : (List Int)) (v4 : Int) (v5 : (List Int)) (v6 : Bool) (hF : AaS k v0 v1 v2 v3 v4=some (v5,v6)) :
 AbF Try.prog 57 [AV.agg [AV.int .i64 v0,Q0 v1,AV.lst false false (List.map (AV.int .i64) v2)],AV.lst false false (List.map (AV.int .i64) v3),AV.int .i64 v4] [] (AV.tup [AV.slc 0 0 1 v5.length false,AV.bool v6]) [some (Gi v5)]:=by
 unfold AaS at hF;refine EN Try.func57 ?_;intro c0 w0 Q h0 hQ
 refine WK [(0,AV.agg [Iz v0,Q0 v1,Lz v2]),(1,Lz v3),(2,Iz v4)] [] 0 (by simp [-List.reduceReplicate,AaE,AaF,AaC]) (by simp [-List.reduceReplicate,AaE,AaF,AaC]) ?_;refine SQ [] [none,none,none] fun _ _ g r=>?_;try simp [-List.reduceReplicate,AaE,AaF,AaC]
 and_intros <;> first | exact GK g | apply r | omega | (simp [-List.reduceReplicate,AaE,AaF,AaC,maxLen] <;> omega)
 refine WK [(1,Lz v3),(2,Iz v4),(3,AV.ptr 0 0)] [(0,.cells [Iz v0,Q0 v1,Lz v2])] 1 (by simp [-List.reduceReplicate,AaE,AaF,AaC]) (by simp [-List.reduceReplicate,AaE,AaF,AaC]) ?_;refine SQ [] [none,none,none,none] fun _ _ g r=>?_;try simp [-List.reduceReplicate,AaE,AaF,AaC]
 and_intros
 try any_goals first | omega | (simp [-List.reduceReplicate,AaE,AaF,AaC,maxLen] <;> omega)
 obtain ⟨v7,h1,hF⟩:=AaN hF;refine AC (Ajn k _ _ _ _ _ h1) (.cons (.same (by simp)) (.cons (.same (by simp)) .nil)) ?_;try simp [-List.reduceReplicate,AaE,AaF,AaC]
 and_intros <;> first | exact GK g | apply r | omega | (simp [-List.reduceReplicate,AaE,AaF,AaC,maxLen] <;> omega)
 refine WK [(2,Iz v4),(3,AV.ptr 0 0),(8,AV.slc 1 0 1 v7.length false)] [(0,.cells [Iz v0,Q0 v1,Lz v2]),(1,Gi v7)] 2 (by simp [-List.reduceReplicate,AaE,AaF,AaC]) (by simp [-List.reduceReplicate,AaE,AaF,AaC]) ?_;refine AW.frz 1 (o:=Gi v7) (by simp [-List.reduceReplicate,AaE,AaF,AaC]) rfl [(8,Lz v7)] [] ⟨(.l (by simp) (by simp) (by simp) (by simp)),trivial⟩ trivial ?_;refine WK [(2,Iz v4),(3,AV.ptr 0 0),(8,Lz v7)] [(0,.cells [Iz v0,Q0 v1,Lz v2])] 2 (by simp [-List.reduceReplicate,AaE,AaF,AaC]) (by simp [-List.reduceReplicate,AaE,AaF,AaC]) ?_;refine AW.seq fun K1520 hK1520=>?_;refine SQ [] [none,none,none,some (21,false),some (21,false),some (21,false),some (21,false),none,none,some (27,false),some (27,false),some (27,false),some (27,false),some (27,false),none] fun _ _ g r=>?_;by_cases h2 : v4<0
 ·replace hF:=AaZ h2 hF;have h2_:=h2;try simp [-List.reduceReplicate] at h2_
  try simp [-List.reduceReplicate,AaE,AaF,AaC,h2,h2_]
  and_intros <;> first | exact GK g | apply r | omega | (simp [-List.reduceReplicate,AaE,AaF,AaC,h2,h2_,maxLen] <;> omega)
  refine WK [(2,Iz v4),(3,AV.ptr 0 0),(8,Lz v7),(33,AV.bool true)] [(0,.cells [Iz v0,Q0 v1,Lz v2])] 2 (by simp [-List.reduceReplicate,AaE,AaF,AaC,h2,h2_]) (by simp [-List.reduceReplicate,AaE,AaF,AaC,h2,h2_]) ?_;refine CT (by simp [-List.reduceReplicate,AaE,AaF,AaC,h2,h2_]) ?_;refine SQ [] [none,none] fun _ _ g r=>?_;try simp [-List.reduceReplicate,AaE,AaF,AaC,h2,h2_]
  and_intros <;> first | exact GK g | apply r | omega | (simp [-List.reduceReplicate,AaE,AaF,AaC,h2,h2_,maxLen] <;> omega)
  refine WK [(6,AV.lst true true (List.map (AV.int .i64) ([] : List Int))),(7,AV.bool false)] [] 2 (by simp [-List.reduceReplicate,AaE,AaF,AaC,h2,h2_]) (by simp [-List.reduceReplicate,AaE,AaF,AaC,h2,h2_]) ?_;refine AW.own' 6 1 true (by simp [-List.reduceReplicate,AaE,AaF,AaC,h2,h2_]) (by decide) ?_;refine RM h0 [(0,2)] [(6,AV.slc 0 0 1 (([] : List Int).length) false),(7,AV.bool false)] [(0,Gi ([] : List Int))] 1 (by simp [-List.reduceReplicate,AaE,AaF,AaC,h2,h2_]) (by simp [-List.reduceReplicate,AaE,AaF,AaC,h2,h2_]) ?_;simp only [Option.some.injEq,Prod.mk.injEq] at hF;obtain ⟨e0,e1⟩:=hF;subst e0 e1;refine AW.ret (hQ _ _ _ ?_ (AaJ ?_)).1
  ·simp [Try.f57,h2,h2_]
  ·simp [h2,h2_]
 ·replace hF:=Aaa h2 hF;have h2_:=h2;try simp [-List.reduceReplicate] at h2_
  by_cases h3 : v0≤v4
  ·replace hF:=AaZ h3 hF;have h3_:=h3;try simp [-List.reduceReplicate] at h3_
   have F1:=A4 h2 h2_ h3 h3_;try simp [-List.reduceReplicate,AaE,AaF,AaC,F1]
   and_intros <;> first | exact GK g | apply r | omega | (simp [-List.reduceReplicate,AaE,AaF,AaC,maxLen,F1] <;> omega)
   refine WK [(2,Iz v4),(3,AV.ptr 0 0),(8,Lz v7),(33,AV.bool true)] [(0,.cells [Iz v0,Q0 v1,Lz v2])] 2 (by simp [-List.reduceReplicate,AaE,AaF,AaC,F1]) (by simp [-List.reduceReplicate,AaE,AaF,AaC,F1]) ?_;refine CT (by simp [-List.reduceReplicate,AaE,AaF,AaC,F1]) ?_;refine SQ [] [none,none] fun _ _ g r=>?_;try simp [-List.reduceReplicate,AaE,AaF,AaC,F1]
   and_intros <;> first | exact GK g | apply r | omega | (simp [-List.reduceReplicate,AaE,AaF,AaC,maxLen,F1] <;> omega)
   refine WK [(6,AV.lst true true (List.map (AV.int .i64) ([] : List Int))),(7,AV.bool false)] [] 2 (by simp [-List.reduceReplicate,AaE,AaF,AaC,F1]) (by simp [-List.reduceReplicate,AaE,AaF,AaC,F1]) ?_;refine AW.own' 6 1 true (by simp [-List.reduceReplicate,AaE,AaF,AaC,F1]) (by decide) ?_;refine RM h0 [(0,2)] [(6,AV.slc 0 0 1 (([] : List Int).length) false),(7,AV.bool false)] [(0,Gi ([] : List Int))] 1 (by simp [-List.reduceReplicate,AaE,AaF,AaC,F1]) (by simp [-List.reduceReplicate,AaE,AaF,AaC,F1]) ?_;simp only [Option.some.injEq,Prod.mk.injEq] at hF;obtain ⟨e0,e1⟩:=hF;subst e0 e1;refine AW.ret (hQ _ _ _ ?_ (AaJ ?_)).1
   ·simp [Try.f57,F1]
   ·simp [F1]
  ·replace hF:=Aaa h3 hF;have h3_:=h3;try simp [-List.reduceReplicate] at h3_
   obtain ⟨v8,h4,h5,h6,hF⟩:=Aad hF;have h6_:=Aas h6;try simp [-List.reduceReplicate] at h6_
   have h5_:=h5;try simp [-List.reduceReplicate] at h5_
   have F2:=A9 h2 h2_ h3 h3_ h4 h5 h6 h6_ h5_;try simp [-List.reduceReplicate,AaE,AaF,AaC,F2]
   and_intros <;> first | exact GK g | apply r | omega | (simp [-List.reduceReplicate,AaE,AaF,AaC,maxLen,F2] <;> omega)
   refine WK [(2,Iz v4),(3,AV.ptr 0 0),(8,Lz v7),(33,AV.bool (decide (v8<0)))] [(0,.cells [Iz v0,Q0 v1,Lz v2])] 2 (by simp [-List.reduceReplicate,AaE,AaF,AaC,F2]) (by simp [-List.reduceReplicate,AaE,AaF,AaC,F2]) ?_;by_cases h7 : v8<0
   ·replace hF:=AaZ h7 hF;have h7_:=h7;try simp [-List.reduceReplicate] at h7_
    have F3:=A3 F2 h7 h7_;refine CT (by simp [-List.reduceReplicate,AaE,AaF,AaC,F3] <;> omega) ?_;refine SQ [] [none,none] fun _ _ g r=>?_;try simp [-List.reduceReplicate,AaE,AaF,AaC,F3]
    and_intros <;> first | exact GK g | apply r | omega | (simp [-List.reduceReplicate,AaE,AaF,AaC,maxLen,F3] <;> omega)
    refine WK [(6,AV.lst true true (List.map (AV.int .i64) ([] : List Int))),(7,AV.bool false)] [] 2 (by simp [-List.reduceReplicate,AaE,AaF,AaC,F3]) (by simp [-List.reduceReplicate,AaE,AaF,AaC,F3]) ?_;refine AW.own' 6 1 true (by simp [-List.reduceReplicate,AaE,AaF,AaC,F3]) (by decide) ?_;refine RM h0 [(0,2)] [(6,AV.slc 0 0 1 (([] : List Int).length) false),(7,AV.bool false)] [(0,Gi ([] : List Int))] 1 (by simp [-List.reduceReplicate,AaE,AaF,AaC,F3]) (by simp [-List.reduceReplicate,AaE,AaF,AaC,F3]) ?_;simp only [Option.some.injEq,Prod.mk.injEq] at hF;obtain ⟨e0,e1⟩:=hF;subst e0 e1;refine AW.ret (hQ _ _ _ ?_ (AaJ ?_)).1
    ·simp [Try.f57,F3]
    ·simp [F3]
   ·replace hF:=Aaa h7 hF;have h7_:=h7;try simp [-List.reduceReplicate] at h7_
    have F4:=A3 F2 h7 h7_;refine CF (by simp [-List.reduceReplicate,AaE,AaF,AaC,F4] <;> omega) ?_;refine AW.skip ?_;refine hK1520 _ _ _ ?_;refine SQ [36] [none,none,none,none] fun _ _ g r=>?_;obtain ⟨h8,hF⟩:=AaR hF;obtain ⟨v9,h9,hF⟩:=Af8 hF;have h9l : v9.length=(v0).toNat:=by rw [← h9]; exact List.length_replicate
    have h9m : List.replicate (v0).toNat (AV.bool false)=List.map AV.bool v9:=by rw [← h9]; exact (List.map_replicate ..).symm
    have F5:=A4 F4 h8 h9l h9m;try simp [-List.reduceReplicate,AaE,AaF,AaC,F5]
    and_intros <;> first | exact GK g | apply r | omega | (simp [-List.reduceReplicate,AaE,AaF,AaC,maxLen,F5] <;> omega)
    refine WK [(2,Iz v4),(3,AV.ptr 0 0),(8,Lz v7),(9,AV.slc 2 0 1 v9.length true)] [(0,.cells [Iz v0,Q0 v1,Lz v2]),(2,.cells (List.map AV.bool v9))] 3 (by simp [-List.reduceReplicate,AaE,AaF,AaC,F5]) (by simp [-List.reduceReplicate,AaE,AaF,AaC,F5]) ?_;refine SQ [] [none,none,none,none] fun _ _ g r=>?_;obtain ⟨⟨h10,h11⟩,hF⟩:=AaR hF;have h11_:=Aa3 h11;have F6:=A4 F5 h10 h11 h11_;try simp [-List.reduceReplicate,AaE,AaF,AaC,F6]
    and_intros <;> first | exact GK g | apply r | omega | (simp [-List.reduceReplicate,AaE,AaF,AaC,maxLen,F6] <;> omega)
    refine WK [(2,Iz v4),(3,AV.ptr 0 0),(8,Lz v7),(9,AV.slc 2 0 1 ((v9.set (v4).toNat true).length) true)] [(0,.cells [Iz v0,Q0 v1,Lz v2]),(2,.cells (List.map AV.bool (v9.set (v4).toNat true)))] 3 (by simp [-List.reduceReplicate,AaE,AaF,AaC,F6]) (by simp [-List.reduceReplicate,AaE,AaF,AaC,F6]) ?_;refine AW.seq fun K1917 hK1917=>?_;refine SQ [] [none,none,none,none,none] fun _ _ g r=>?_;try simp [-List.reduceReplicate,AaE,AaF,AaC,F6]
    and_intros <;> first | exact GK g | apply r | omega | (simp [-List.reduceReplicate,AaE,AaF,AaC,maxLen,F6] <;> omega)
    refine WK [(2,Iz v4),(3,AV.ptr 0 0),(8,Lz v7),(9,AV.slc 2 0 1 ((v9.set (v4).toNat true).length) true),(10,Iz v8)] [(0,.cells [Iz v0,Q0 v1,Lz v2]),(2,.cells (List.map AV.bool (v9.set (v4).toNat true)))] 3 (by simp [-List.reduceReplicate,AaE,AaF,AaC,F6]) (by simp [-List.reduceReplicate,AaE,AaF,AaC,F6]) ?_;refine AW.block ?_;refine RM h0 [(0,0),(1,2)] [(2,Iz v4),(3,AV.ptr 0 0),(8,Lz v7),(9,AV.slc 1 0 1 ((v9.set (v4).toNat true).length) true),(10,Iz v8)] [(0,.cells [Iz v0,Q0 v1,Lz v2]),(1,.cells (List.map AV.bool (v9.set (v4).toNat true)))] 2 (by simp [-List.reduceReplicate,AaE,AaF,AaC,F6]) (by simp [-List.reduceReplicate,AaE,AaF,AaC,F6]) ?_;refine AW.loopF (α:=(Int×(List Bool))) (fun n (v10,v11)=>AaS.L1 k v0 v1 v2 v7 v8 n v10 v11=some (v5,v6)) (fun (v10,v11)=>[(2,Iz v4),(3,AV.ptr 0 0),(8,Lz v7),(9,AV.slc 1 0 1 v11.length true),(10,Iz v10)]) (fun (v10,v11)=>[(0,.cells [Iz v0,Q0 v1,Lz v2]),(1,.cells (List.map AV.bool v11))]) 2 k ((v8,v9.set (v4).toNat true)) hF (by simp [-List.reduceReplicate,AaE,AaF,AaC,F6]) (by simp [-List.reduceReplicate,AaE,AaF,AaC,F6]) (by simp) ?_;rintro (_|n1) ⟨v10,v11⟩ hF K2210 hK2210
    ·try dsimp only at hF
     rw [AaS.L1] at hF; cases hF
    try dsimp only at hF
    rw [AaS.L1] at hF;refine AW.seq fun K2212 hK2212=>?_;refine SQ [] [none,none] fun _ _ g r=>?_;try simp [-List.reduceReplicate,AaE,AaF,AaC,F6]
    and_intros <;> first | exact GK g | apply r | omega | (simp [-List.reduceReplicate,AaE,AaF,AaC,maxLen,F6] <;> omega)
    refine WK [(2,Iz v4),(3,AV.ptr 0 0),(8,Lz v7),(9,AV.slc 1 0 1 v11.length true),(10,Iz v10),(45,AV.bool (decide (0<v10)))] [(0,.cells [Iz v0,Q0 v1,Lz v2]),(1,.cells (List.map AV.bool v11))] 2 (by simp [-List.reduceReplicate,AaE,AaF,AaC,F6]) (by simp [-List.reduceReplicate,AaE,AaF,AaC,F6]) ?_;by_cases h12 : 0<v10
    ·replace hF:=AaZ h12 hF;have h12_:=h12;try simp [-List.reduceReplicate] at h12_
     have F7:=A3 F6 h12 h12_;refine CT (by simp [-List.reduceReplicate,AaE,AaF,AaC,F7] <;> omega) ?_;refine AW.skip ?_;refine hK2212 _ _ _ ?_;refine AW.seq fun K2260 hK2260=>?_;refine AW.block ?_;refine SQ [] [none] fun _ _ g r=>?_;try simp [-List.reduceReplicate,AaE,AaF,AaC,F7]
     and_intros <;> first | exact GK g | apply r | omega | (simp [-List.reduceReplicate,AaE,AaF,AaC,maxLen,F7] <;> omega)
     refine WK [(2,Iz v4),(3,AV.ptr 0 0),(8,Lz v7),(9,AV.slc 1 0 1 v11.length true),(10,Iz v10),(11,Iz 0)] [(0,.cells [Iz v0,Q0 v1,Lz v2]),(1,.cells (List.map AV.bool v11))] 2 (by simp [-List.reduceReplicate,AaE,AaF,AaC,F7]) (by simp [-List.reduceReplicate,AaE,AaF,AaC,F7]) ?_;refine AW.block ?_;refine AW.loopF (α:=(Int×(List Bool))) (fun n (v12,v13)=>AaS.L2 k v1 v7 v10 (fun v10_ v11_=>AaS.L1 k v0 v1 v2 v7 v8 n1 v10_ v11_) n v12 v13=some (v5,v6)) (fun (v12,v13)=>[(2,Iz v4),(3,AV.ptr 0 0),(8,Lz v7),(9,AV.slc 1 0 1 v13.length true),(10,Iz v10),(11,Iz v12)]) (fun (v12,v13)=>[(0,.cells [Iz v0,Q0 v1,Lz v2]),(1,.cells (List.map AV.bool v13))]) 2 k ((0,v11)) hF (by simp [-List.reduceReplicate,AaE,AaF,AaC,F7]) (by simp [-List.reduceReplicate,AaE,AaF,AaC,F7]) (by simp) ?_;rintro (_|n2) ⟨v12,v13⟩ hF K2295 hK2295
     ·try dsimp only at hF
      rw [AaS.L2] at hF; cases hF
     try dsimp only at hF
     rw [AaS.L2] at hF;refine AW.seq fun K2297 hK2297=>?_;refine SQ [] [none,none,none,none,none] fun _ _ g r=>?_;try simp [-List.reduceReplicate,AaE,AaF,AaC,F7]
     and_intros <;> first | exact GK g | apply r | omega | (simp [-List.reduceReplicate,AaE,AaF,AaC,maxLen,F7] <;> omega)
     refine WK [(2,Iz v4),(3,AV.ptr 0 0),(8,Lz v7),(9,AV.slc 1 0 1 v13.length true),(10,Iz v10),(11,Iz v12),(52,AV.bool (decide (v12<(v1.length : Int))))] [(0,.cells [Iz v0,Q0 v1,Lz v2]),(1,.cells (List.map AV.bool v13))] 2 (by simp [-List.reduceReplicate,AaE,AaF,AaC,F7]) (by simp [-List.reduceReplicate,AaE,AaF,AaC,F7]) ?_;by_cases h13 : v12<(v1.length : Int)
     ·replace hF:=AaZ h13 hF;have h13_:=h13;try simp [-List.reduceReplicate] at h13_
      have F8:=A3 F7 h13 h13_;refine CT (by simp [-List.reduceReplicate,AaE,AaF,AaC,F8] <;> omega) ?_;refine AW.skip ?_;refine hK2297 _ _ _ ?_;refine AW.midF (α:=(List Bool)) (fun v14=>AaS.J3 k v12 (fun v12_ v13_=>AaS.L2 k v1 v7 v10 (fun v10_ v11_=>AaS.L1 k v0 v1 v2 v7 v8 n1 v10_ v11_) n2 v12_ v13_) v14=some (v5,v6)) (fun v14=>[(2,Iz v4),(3,AV.ptr 0 0),(8,Lz v7),(9,AV.slc 1 0 1 v14.length true),(10,Iz v10),(11,Iz v12)]) (fun v14=>[(0,.cells [Iz v0,Q0 v1,Lz v2]),(1,.cells (List.map AV.bool v14))]) 2 (fun K2303 hK2303=>?_) ?_
      ·refine AW.block ?_;refine SQ [] [none,none,none,none,none,none,none] fun _ _ g r=>?_;obtain ⟨v15,h14,h15,h16,hF⟩:=Aad hF;have h16_:=Aas h16;try simp [-List.reduceReplicate] at h16_
       have h15_:=h15;try simp [-List.reduceReplicate] at h15_
       have F9:=A6 F8 h14 h15 h16 h16_ h15_;try simp [-List.reduceReplicate,AaE,AaF,AaC,F9]
       and_intros <;> first | exact GK g | apply r | omega | (simp [-List.reduceReplicate,AaE,AaF,AaC,maxLen,F9] <;> omega)
       refine WK [(2,Iz v4),(3,AV.ptr 0 0),(8,Lz v7),(9,AV.slc 1 0 1 v13.length true),(10,Iz v10),(11,Iz v12),(12,AV.ptr 2 0)] [(0,.cells [Iz v0,Q0 v1,Lz v2]),(1,.cells (List.map AV.bool v13)),(2,.cells [Iz v15.From,Iz v15.To,Iz v15.Level])] 3 (by simp [-List.reduceReplicate,AaE,AaF,AaC,F9]) (by simp [-List.reduceReplicate,AaE,AaF,AaC,F9]) ?_;refine SQ [] [none,none,none,none,none,none,some (65,true),some (65,true),some (65,true),some (65,true),some (65,true),some (65,true),some (65,true),none,none,some (74,true),some (74,true),some (74,true),some (74,true),some (74,true),some (74,true),some (74,true),some (74,true),none] fun _ _ g r=>?_;obtain ⟨⟨h17,h18⟩,hF⟩:=AaR hF;have h18_:=Aa3 h18;obtain ⟨v16,h19,h20,h21,hF⟩:=Aad hF;have h21_:=Aas h21;try simp [-List.reduceReplicate] at h21_
       have h20_:=h20;try simp [-List.reduceReplicate] at h20_
       by_cases h22 : v16=true
       ·replace hF:=AaZ h22 hF;have h22_:=h22;try simp [-List.reduceReplicate] at h22_
        obtain ⟨v17,h23,h24,h25,hF⟩:=Aad hF;have h25_:=Aas h25;try simp [-List.reduceReplicate] at h25_
        have h24_:=h24;try simp [-List.reduceReplicate] at h24_
        by_cases h26 : v17=v10
        ·replace hF:=AaZ h26 hF;have h26q : v17=v10:=h26;have h26_:=Abf h26q;have h26__:=Abe h26q;obtain ⟨v18,h27,h28,h29,hF⟩:=Aad hF;have h29_:=Aas h29;try simp [-List.reduceReplicate] at h29_
         have h28_:=h28;try simp [-List.reduceReplicate] at h28_
         have F10:=A9 F9 h17 h18 h18_ h19 h20 h21 h21_ (A9 h20_ h22 h22_ h23 h24 h25 h25_ h24_ (A7 h26_ h26__ h27 h28 h29 h29_ h28_));try simp [-List.reduceReplicate,AaE,AaF,AaC,F10]
         and_intros <;> first | exact GK g | apply r | omega | (simp [-List.reduceReplicate,AaE,AaF,AaC,maxLen,F10] <;> omega)
         refine WK [(2,Iz v4),(3,AV.ptr 0 0),(8,Lz v7),(9,AV.slc 1 0 1 v13.length true),(10,Iz v10),(11,Iz v12),(12,AV.ptr 2 0),(83,AV.bool (v18==(IntKind.wrap .i64 (v10-1))))] [(0,.cells [Iz v0,Q0 v1,Lz v2]),(1,.cells (List.map AV.bool v13)),(2,.cells [Iz v15.From,Iz v15.To,Iz v15.Level])] 3 (by simp [-List.reduceReplicate,AaE,AaF,AaC,F10]) (by simp [-List.reduceReplicate,AaE,AaF,AaC,F10]) ?_;by_cases h30 : v18=(IntKind.wrap .i64 (v10-1))
         ·replace hF:=AaZ h30 hF;have h30q : v18=(IntKind.wrap .i64 (v10-1)):=h30;have h30_:=Abf h30q;have h30__:=Abe h30q;refine CT (by simp [-List.reduceReplicate,AaE,AaF,AaC,F10,h30_,h30__] <;> omega) ?_;refine RG [] [none,none,none,none,none] fun _ _ g r=>?_;obtain ⟨⟨h31,h32⟩,hF⟩:=AaR hF;have h32_:=Aa3 h32;have F11:=A6 F10 h30_ h30__ h31 h32 h32_;try simp [-List.reduceReplicate,AaE,AaF,AaC,F11]
          and_intros <;> first | exact GK g | apply r | omega | (simp [-List.reduceReplicate,AaE,AaF,AaC,maxLen,F11] <;> omega)
          refine hK2303 _ _ _ ?_;refine RN h0 [(0,0),(1,1)] [(2,Iz v4),(3,AV.ptr 0 0),(8,Lz v7),(9,AV.slc 1 0 1 ((v13.set (v15.From).toNat true).length) true),(10,Iz v10),(11,Iz v12)] [(0,.cells [Iz v0,Q0 v1,Lz v2]),(1,.cells (List.map AV.bool (v13.set (v15.From).toNat true)))] 2 (by simp [-List.reduceReplicate,AaE,AaF,AaC,F11]) (by simp [-List.reduceReplicate,AaE,AaF,AaC,F11]) ?_;exact JN (v13.set (v15.From).toNat true) hF (by simp [-List.reduceReplicate,AaE,AaF,AaC,F11]) (by simp [-List.reduceReplicate,AaE,AaF,AaC,F11])
         ·replace hF:=Aaa h30 hF;have h30_:=AbY h30;have h30__:=Abc h30;have F12:=A4 F10 h30 h30_ h30__;refine CF (by simp [-List.reduceReplicate,AaE,AaF,AaC,F12] <;> omega) ?_;refine AW.skip ?_;refine hK2303 _ _ _ ?_;refine RN h0 [(0,0),(1,1)] [(2,Iz v4),(3,AV.ptr 0 0),(8,Lz v7),(9,AV.slc 1 0 1 v13.length true),(10,Iz v10),(11,Iz v12)] [(0,.cells [Iz v0,Q0 v1,Lz v2]),(1,.cells (List.map AV.bool v13))] 2 (by simp [-List.reduceReplicate,AaE,AaF,AaC,F12]) (by simp [-List.reduceReplicate,AaE,AaF,AaC,F12]) ?_;exact JN (v13) hF (by simp [-List.reduceReplicate,AaE,AaF,AaC,F12]) (by simp [-List.reduceReplicate,AaE,AaF,AaC,F12])
        ·replace hF:=Aaa h26 hF;have h26_:=AbY h26;have h26__:=Abc h26;have F13:=A9 F9 h17 h18 h18_ h19 h20 h21 h21_ (A9 h20_ h22 h22_ h23 h24 h25 h25_ h24_ (A3 h26 h26_ h26__));try simp [-List.reduceReplicate,AaE,AaF,AaC,F13]
         and_intros <;> first | exact GK g | apply r | omega | (simp [-List.reduceReplicate,AaE,AaF,AaC,maxLen,F13] <;> omega)
         refine WK [(2,Iz v4),(3,AV.ptr 0 0),(8,Lz v7),(9,AV.slc 1 0 1 v13.length true),(10,Iz v10),(11,Iz v12),(12,AV.ptr 2 0),(83,AV.bool false)] [(0,.cells [Iz v0,Q0 v1,Lz v2]),(1,.cells (List.map AV.bool v13)),(2,.cells [Iz v15.From,Iz v15.To,Iz v15.Level])] 3 (by simp [-List.reduceReplicate,AaE,AaF,AaC,F13]) (by simp [-List.reduceReplicate,AaE,AaF,AaC,F13]) ?_;refine CF (by simp [-List.reduceReplicate,AaE,AaF,AaC,F13]) ?_;refine AW.skip ?_;refine hK2303 _ _ _ ?_;refine RN h0 [(0,0),(1,1)] [(2,Iz v4),(3,AV.ptr 0 0),(8,Lz v7),(9,AV.slc 1 0 1 v13.length true),(10,Iz v10),(11,Iz v12)] [(0,.cells [Iz v0,Q0 v1,Lz v2]),(1,.cells (List.map AV.bool v13))] 2 (by simp [-List.reduceReplicate,AaE,AaF,AaC,F13]) (by simp [-List.reduceReplicate,AaE,AaF,AaC,F13]) ?_;exact JN (v13) hF (by simp [-List.reduceReplicate,AaE,AaF,AaC,F13]) (by simp [-List.reduceReplicate,AaE,AaF,AaC,F13])
       ·replace hF:=Aaa h22 hF;have h22_:=h22;try simp [-List.reduceReplicate] at h22_
        have F14:=A9 F9 h17 h18 h18_ h19 h20 h21 h21_ (A3 h20_ h22 h22_);try simp [-List.reduceReplicate,AaE,AaF,AaC,F14]
        and_intros <;> first | exact GK g | apply r | omega | (simp [-List.reduceReplicate,AaE,AaF,AaC,maxLen,F14] <;> omega)
        refine WK [(2,Iz v4),(3,AV.ptr 0 0),(8,Lz v7),(9,AV.slc 1 0 1 v13.length true),(10,Iz v10),(11,Iz v12),(12,AV.ptr 2 0),(83,AV.bool false)] [(0,.cells [Iz v0,Q0 v1,Lz v2]),(1,.cells (List.map AV.bool v13)),(2,.cells [Iz v15.From,Iz v15.To,Iz v15.Level])] 3 (by simp [-List.reduceReplicate,AaE,AaF,AaC,F14]) (by simp [-List.reduceReplicate,AaE,AaF,AaC,F14]) ?_;refine CF (by simp [-List.reduceReplicate,AaE,AaF,AaC,F14]) ?_;refine AW.skip ?_;refine hK2303 _ _ _ ?_;refine RN h0 [(0,0),(1,1)] [(2,Iz v4),(3,AV.ptr 0 0),(8,Lz v7),(9,AV.slc 1 0 1 v13.length true),(10,Iz v10),(11,Iz v12)] [(0,.cells [Iz v0,Q0 v1,Lz v2]),(1,.cells (List.map AV.bool v13))] 2 (by simp [-List.reduceReplicate,AaE,AaF,AaC,F14]) (by simp [-List.reduceReplicate,AaE,AaF,AaC,F14]) ?_;exact JN (v13) hF (by simp [-List.reduceReplicate,AaE,AaF,AaC,F14]) (by simp [-List.reduceReplicate,AaE,AaF,AaC,F14])
      ·rintro v14 hF
       try dsimp only at hF
       unfold AaS.J3 at hF;refine RG [] [none,none,none] fun _ _ g r=>?_;try simp [-List.reduceReplicate,AaE,AaF,AaC,F8]
       and_intros <;> first | exact GK g | apply r | omega | (simp [-List.reduceReplicate,AaE,AaF,AaC,maxLen,F8] <;> omega)
       refine hK2295 _ _ _ ?_;exact NX (k':=n2) ((IntKind.wrap .i64 (v12+1),v14)) hF (by simp [-List.reduceReplicate,AaE,AaF,AaC,F8]) (by simp [-List.reduceReplicate,AaE,AaF,AaC,F8])
     ·replace hF:=Aaa h13 hF;have h13_:=h13;try simp [-List.reduceReplicate] at h13_
      have F15:=A3 F7 h13 h13_;refine CF (by simp [-List.reduceReplicate,AaE,AaF,AaC,F15] <;> omega) ?_;refine AW.exit ?_;try simp [-List.reduceReplicate]
      refine hK2260 _ _ _ ?_;refine RG [] [none,none,none] fun _ _ g r=>?_;try simp [-List.reduceReplicate,AaE,AaF,AaC,F15]
      and_intros <;> first | exact GK g | apply r | omega | (simp [-List.reduceReplicate,AaE,AaF,AaC,maxLen,F15] <;> omega)
      refine hK2210 _ _ _ ?_;exact NX (k':=n1) ((IntKind.wrap .i64 (v10-1),v13)) hF (by simp [-List.reduceReplicate,AaE,AaF,AaC,F15]) (by simp [-List.reduceReplicate,AaE,AaF,AaC,F15])
    ·replace hF:=Aaa h12 hF;have h12_:=h12;try simp [-List.reduceReplicate] at h12_
     have F16:=A3 F6 h12 h12_;refine CF (by simp [-List.reduceReplicate,AaE,AaF,AaC,F16] <;> omega) ?_;refine AW.exit ?_;try simp [-List.reduceReplicate]
     refine hK1917 _ _ _ ?_;refine WK [(2,Iz v4),(3,AV.ptr 0 0),(8,Lz v7),(9,AV.slc 1 0 1 v11.length true)] [(0,.cells [Iz v0,Q0 v1,Lz v2]),(1,.cells (List.map AV.bool v11))] 2 (by simp [-List.reduceReplicate,AaE,AaF,AaC,F16]) (by simp [-List.reduceReplicate,AaE,AaF,AaC,F16]) ?_;refine AW.frz 1 (o := .cells (List.map AV.bool v11)) (by simp [-List.reduceReplicate,AaE,AaF,AaC,F16]) rfl [(9,AV.lst false true (List.map AV.bool v11))] [] ⟨(.l (by simp) (by simp) (by simp) (by simp)),trivial⟩ trivial ?_;refine WK [(2,Iz v4),(3,AV.ptr 0 0),(8,Lz v7),(9,AV.lst false true (List.map AV.bool v11))] [(0,.cells [Iz v0,Q0 v1,Lz v2])] 2 (by simp [-List.reduceReplicate,AaE,AaF,AaC,F16]) (by simp [-List.reduceReplicate,AaE,AaF,AaC,F16]) ?_;refine SQ [] [none] fun _ _ g r=>?_;try simp [-List.reduceReplicate,AaE,AaF,AaC,F16]
     and_intros <;> first | exact GK g | apply r | omega | (simp [-List.reduceReplicate,AaE,AaF,AaC,maxLen,F16] <;> omega)
     refine WK [(2,Iz v4),(3,AV.ptr 0 0),(8,Lz v7),(9,AV.lst false true (List.map AV.bool v11)),(13,AV.lst true true (List.map (AV.int .i64) ([] : List Int)))] [(0,.cells [Iz v0,Q0 v1,Lz v2])] 2 (by simp [-List.reduceReplicate,AaE,AaF,AaC,F16]) (by simp [-List.reduceReplicate,AaE,AaF,AaC,F16]) ?_;refine AW.seq fun K2667 hK2667=>?_;refine SQ [] [none] fun _ _ g r=>?_;try simp [-List.reduceReplicate,AaE,AaF,AaC,F16]
     and_intros <;> first | exact GK g | apply r | omega | (simp [-List.reduceReplicate,AaE,AaF,AaC,maxLen,F16] <;> omega)
     refine WK [(2,Iz v4),(3,AV.ptr 0 0),(8,Lz v7),(9,AV.lst false true (List.map AV.bool v11)),(13,AV.lst true true (List.map (AV.int .i64) ([] : List Int))),(14,Iz 0)] [(0,.cells [Iz v0,Q0 v1,Lz v2])] 2 (by simp [-List.reduceReplicate,AaE,AaF,AaC,F16]) (by simp [-List.reduceReplicate,AaE,AaF,AaC,F16]) ?_;refine AW.block ?_;refine AW.own' 13 1 true (by simp [-List.reduceReplicate,AaE,AaF,AaC,F16]) (by decide) ?_;refine RM h0 [(0,0),(1,2)] [(2,Iz v4),(3,AV.ptr 0 0),(8,Lz v7),(9,AV.lst false true (List.map AV.bool v11)),(13,AV.slc 1 0 1 (([] : List Int).length) false),(14,Iz 0)] [(0,.cells [Iz v0,Q0 v1,Lz v2]),(1,Gi ([] : List Int))] 2 (by simp [-List.reduceReplicate,AaE,AaF,AaC,F16]) (by simp [-List.reduceReplicate,AaE,AaF,AaC,F16]) ?_;refine AW.loopF (α:=(Int×(List Int))) (fun n (v19,v20)=>AaS.L4 k v0 v1 v2 v7 v8 v11 n v19 v20=some (v5,v6)) (fun (v19,v20)=>[(2,Iz v4),(3,AV.ptr 0 0),(8,Lz v7),(9,AV.lst false true (List.map AV.bool v11)),(13,AV.slc 1 0 1 v20.length false),(14,Iz v19)]) (fun (v19,v20)=>[(0,.cells [Iz v0,Q0 v1,Lz v2]),(1,Gi v20)]) 2 k ((0,([] : List Int))) hF (by simp [-List.reduceReplicate,AaE,AaF,AaC,F16]) (by simp [-List.reduceReplicate,AaE,AaF,AaC,F16]) (by simp) ?_;rintro (_|n4) ⟨v19,v20⟩ hF K2928 hK2928
     ·try dsimp only at hF
      rw [AaS.L4] at hF; cases hF
     try dsimp only at hF
     rw [AaS.L4] at hF;refine AW.seq fun K2930 hK2930=>?_;refine SQ [] [none,none,none,none,none,none] fun _ _ g r=>?_;try simp [-List.reduceReplicate,AaE,AaF,AaC,F16]
     and_intros <;> first | exact GK g | apply r | omega | (simp [-List.reduceReplicate,AaE,AaF,AaC,maxLen,F16] <;> omega)
     refine WK [(2,Iz v4),(3,AV.ptr 0 0),(8,Lz v7),(9,AV.lst false true (List.map AV.bool v11)),(13,AV.slc 1 0 1 v20.length false),(14,Iz v19),(93,AV.bool (decide (v19≤v8)))] [(0,.cells [Iz v0,Q0 v1,Lz v2]),(1,Gi v20)] 2 (by simp [-List.reduceReplicate,AaE,AaF,AaC,F16]) (by simp [-List.reduceReplicate,AaE,AaF,AaC,F16]) ?_;by_cases h33 : v19≤v8
     ·replace hF:=AaZ h33 hF;have h33_:=h33;try simp [-List.reduceReplicate] at h33_
      have F17:=A3 F16 h33 h33_;refine CT (by simp [-List.reduceReplicate,AaE,AaF,AaC,F17] <;> omega) ?_;refine AW.skip ?_;refine hK2930 _ _ _ ?_;refine AW.midF (α:=(List Int)) (fun v21=>AaS.J5 k v19 (fun v19_ v20_=>AaS.L4 k v0 v1 v2 v7 v8 v11 n4 v19_ v20_) v21=some (v5,v6)) (fun v21=>[(2,Iz v4),(3,AV.ptr 0 0),(8,Lz v7),(9,AV.lst false true (List.map AV.bool v11)),(13,AV.slc 1 0 1 v21.length false),(14,Iz v19)]) (fun v21=>[(0,.cells [Iz v0,Q0 v1,Lz v2]),(1,Gi v21)]) 2 (fun K2979 hK2979=>?_) ?_
      ·refine AW.block ?_;refine SQ [] [none] fun _ _ g r=>?_;try simp [-List.reduceReplicate,AaE,AaF,AaC,F17]
       and_intros <;> first | exact GK g | apply r | omega | (simp [-List.reduceReplicate,AaE,AaF,AaC,maxLen,F17] <;> omega)
       refine WK [(2,Iz v4),(3,AV.ptr 0 0),(8,Lz v7),(9,AV.lst false true (List.map AV.bool v11)),(13,AV.slc 1 0 1 v20.length false),(14,Iz v19),(15,Iz 0)] [(0,.cells [Iz v0,Q0 v1,Lz v2]),(1,Gi v20)] 2 (by simp [-List.reduceReplicate,AaE,AaF,AaC,F17]) (by simp [-List.reduceReplicate,AaE,AaF,AaC,F17]) ?_;refine AW.block ?_;refine AW.loopF (α:=Int) (fun n v22=>AaS.L6 k v0 v1 v2 v7 v11 v19 v20 (fun v19_ v20_=>AaS.L4 k v0 v1 v2 v7 v8 v11 n4 v19_ v20_) n v22=some (v5,v6)) (fun v22=>[(2,Iz v4),(3,AV.ptr 0 0),(8,Lz v7),(9,AV.lst false true (List.map AV.bool v11)),(13,AV.slc 1 0 1 v20.length false),(14,Iz v19),(15,Iz v22)]) (fun v22=>[(0,.cells [Iz v0,Q0 v1,Lz v2]),(1,Gi v20)]) 2 k (0) hF (by simp [-List.reduceReplicate,AaE,AaF,AaC,F17]) (by simp [-List.reduceReplicate,AaE,AaF,AaC,F17]) (by simp) ?_;rintro (_|n6) v22 hF K3014 hK3014
       ·try dsimp only at hF
        rw [AaS.L6] at hF; cases hF
       try dsimp only at hF
       rw [AaS.L6] at hF;refine AW.seq fun K3016 hK3016=>?_;refine SQ [] [none,none,none,none] fun _ _ g r=>?_;try simp [-List.reduceReplicate,AaE,AaF,AaC,F17]
       and_intros <;> first | exact GK g | apply r | omega | (simp [-List.reduceReplicate,AaE,AaF,AaC,maxLen,F17] <;> omega)
       refine WK [(2,Iz v4),(3,AV.ptr 0 0),(8,Lz v7),(9,AV.lst false true (List.map AV.bool v11)),(13,AV.slc 1 0 1 v20.length false),(14,Iz v19),(15,Iz v22),(99,AV.bool (decide (v22<v0)))] [(0,.cells [Iz v0,Q0 v1,Lz v2]),(1,Gi v20)] 2 (by simp [-List.reduceReplicate,AaE,AaF,AaC,F17]) (by simp [-List.reduceReplicate,AaE,AaF,AaC,F17]) ?_;by_cases h34 : v22<v0
       ·replace hF:=AaZ h34 hF;have h34_:=h34;try simp [-List.reduceReplicate] at h34_
        have F18:=A3 F17 h34 h34_;refine CT (by simp [-List.reduceReplicate,AaE,AaF,AaC,F18] <;> omega) ?_;refine AW.skip ?_;refine hK3016 _ _ _ ?_;refine AW.midF (α:=Unit) (fun _=>AaS.J7 k v22 (fun v22_=>AaS.L6 k v0 v1 v2 v7 v11 v19 v20 (fun v19_ v20_=>AaS.L4 k v0 v1 v2 v7 v8 v11 n4 v19_ v20_) n6 v22_)=some (v5,v6)) (fun _=>[(2,Iz v4),(3,AV.ptr 0 0),(8,Lz v7),(9,AV.lst false true (List.map AV.bool v11)),(13,AV.slc 1 0 1 v20.length false),(14,Iz v19),(15,Iz v22)]) (fun _=>[(0,.cells [Iz v0,Q0 v1,Lz v2]),(1,Gi v20)]) 2 (fun K3022 hK3022=>?_) ?_
        ·refine AW.block ?_;refine SQ [] [none,none,none,none,none,some (106,true),some (106,true),some (106,true),some (106,true),some (106,true),some (106,true),none,none,some (114,true),some (114,true),some (114,true),some (117,false),some (117,false),some (117,false),some (117,false),some (117,false),some (117,false),some (117,false),some (117,false),some (117,false),some (114,true),none] fun _ _ g r=>?_;obtain ⟨v23,h35,h36,h37,hF⟩:=Aad hF;have h37_:=Aas h37;try simp [-List.reduceReplicate] at h37_
         have h36_:=h36;try simp [-List.reduceReplicate] at h36_
         by_cases h38 : v23=true
         ·replace hF:=AaZ h38 hF;have h38_:=h38;try simp [-List.reduceReplicate] at h38_
          obtain ⟨v24,h39,h40,h41,hF⟩:=Aad hF;have h41_:=Aas h41;try simp [-List.reduceReplicate] at h41_
          have h40_:=h40;try simp [-List.reduceReplicate] at h40_
          by_cases h42 : v24=v19
          ·replace hF:=AaZ h42 hF;have h42q : v24=v19:=h42;have h42_:=Abf h42q;have h42__:=Abe h42q;by_cases h43 : v19=0
           ·replace hF:=AaZ h43 hF;have h43q : v19=0:=h43;have h43_:=Abf h43q;have h43__:=Abe h43q;have h43__h42:=h42_;simp only [h43q] at h43__h42;have h43___h42:=h42__;simp only [h43q] at h43___h42;have F19:=A9 F18 h35 h36 h37 h37_ h36_ h38 h38_ (A9 h39 h40 h41 h41_ h40_ h42_ h42__ h43_ (A4 h43__ h43q h43__h42 h43___h42));try simp [-List.reduceReplicate,AaE,AaF,AaC,F19]
            and_intros <;> first | exact GK g | apply r | omega | (simp [-List.reduceReplicate,AaE,AaF,AaC,maxLen,F19] <;> omega)
            refine WK [(2,Iz v4),(3,AV.ptr 0 0),(8,Lz v7),(9,AV.lst false true (List.map AV.bool v11)),(13,AV.slc 1 0 1 v20.length false),(14,Iz v19),(15,Iz v22),(128,AV.bool true)] [(0,.cells [Iz v0,Q0 v1,Lz v2]),(1,Gi v20)] 2 (by simp [-List.reduceReplicate,AaE,AaF,AaC,F19]) (by simp [-List.reduceReplicate,AaE,AaF,AaC,F19]) ?_;refine CT (by simp [-List.reduceReplicate,AaE,AaF,AaC,F19]) ?_;refine SQ [] [none,none,none,none,none] fun _ _ g r=>?_;obtain ⟨h44,hF⟩:=AaR hF;have h44_:=h44;try simp [-List.reduceReplicate] at h44_
            have F20:=A2 F19 h44;try simp [-List.reduceReplicate,AaE,AaF,AaC,F20]
            and_intros <;> first | exact GK g | apply r | omega | (simp [-List.reduceReplicate,AaE,AaF,AaC,maxLen,F20] <;> omega)
            refine WK [(2,Iz v4),(3,AV.ptr 0 0),(8,Lz v7),(9,AV.lst false true (List.map AV.bool v11)),(13,AV.slc 2 0 1 ((v20++([v22] : List Int)).length) false),(14,Iz v19)] [(0,.cells [Iz v0,Q0 v1,Lz v2]),(2,Gi (v20++([v22] : List Int)))] 3 (by simp [-List.reduceReplicate,AaE,AaF,AaC,F20] <;> omega) (by simp [-List.reduceReplicate,AaE,AaF,AaC,F20]) ?_;refine AW.exit ?_;try simp [-List.reduceReplicate]
            refine hK2979 _ _ _ ?_;refine RN h0 [(0,0),(1,2)] [(2,Iz v4),(3,AV.ptr 0 0),(8,Lz v7),(9,AV.lst false true (List.map AV.bool v11)),(13,AV.slc 1 0 1 ((v20++([v22] : List Int)).length) false),(14,Iz v19)] [(0,.cells [Iz v0,Q0 v1,Lz v2]),(1,Gi (v20++([v22] : List Int)))] 2 (by simp [-List.reduceReplicate,AaE,AaF,AaC,F20]) (by simp [-List.reduceReplicate,AaE,AaF,AaC,F20]) ?_;exact JN (v20++([v22] : List Int)) hF (by simp [-List.reduceReplicate,AaE,AaF,AaC,F20]) (by simp [-List.reduceReplicate,AaE,AaF,AaC,F20])
           ·replace hF:=Aaa h43 hF;have h43_:=AbY h43;have h43__:=Abc h43;obtain ⟨⟨h45,h46⟩,hF⟩:=AaR hF;have h46_:=Aa3 h46;obtain ⟨v25,h47,h48,h49,hF⟩:=Aad hF;have h49_:=Aas h49;try simp [-List.reduceReplicate] at h49_
            have h48_:=h48;try simp [-List.reduceReplicate] at h48_
            have F21:=A9 F18 h35 h36 h37 h37_ h36_ h38 h38_ (A9 h39 h40 h41 h41_ h40_ h42_ h42__ h43 (A9 h43_ h43__ h45 h46 h46_ h47 h48 h49 (A2 h49_ h48_)));try simp [-List.reduceReplicate,AaE,AaF,AaC,F21]
            and_intros
            try any_goals first | omega | (simp [-List.reduceReplicate,AaE,AaF,AaC,maxLen,F21] <;> omega)
            obtain ⟨v26,h50,hF⟩:=AaN hF;refine AC (Agy k _ _ _ _ _ h50) (.cons (.same (by simp [-List.reduceReplicate,AaE,AaF,AaC,F21])) (.cons (.same (by simp [-List.reduceReplicate,AaE,AaF,AaC,F21])) .nil)) ?_;try simp [-List.reduceReplicate,AaE,AaF,AaC,F21]
            and_intros
            try any_goals first | omega | (simp [-List.reduceReplicate,AaE,AaF,AaC,maxLen,F21] <;> omega)
            obtain ⟨v27,h51,hF⟩:=AaN hF;refine AbA (Abj k _ _ _ h51) (by simp) [] [2] [] rfl (.cons (Coe.l (o:=Gi v26) (by simp [-List.reduceReplicate,AaE,AaF,AaC,F21]) rfl (by simp [-List.reduceReplicate,AaE,AaF,AaC,F21]) (by simp [Ac5]) (by simp [-List.reduceReplicate,AaE,AaF,AaC,F21]) (by simp [-List.reduceReplicate,AaE,AaF,AaC,F21])) (.cons (.same (by simp [-List.reduceReplicate,AaE,AaF,AaC,F21])) .nil)) (by simp [-List.reduceReplicate,AaE,AaF,AaC,F21]) (by decide) (by simp) (by simp) (.inr ⟨by simp,by simp⟩) (by simp) (by simp) ?_;try simp [-List.reduceReplicate,AaE,AaF,AaC,F21]
            and_intros <;> first | exact GK g | apply r | omega | (simp [-List.reduceReplicate,AaE,AaF,AaC,maxLen,F21] <;> omega)
            refine WK [(2,Iz v4),(3,AV.ptr 0 0),(8,Lz v7),(9,AV.lst false true (List.map AV.bool v11)),(13,AV.slc 1 0 1 v20.length false),(14,Iz v19),(15,Iz v22),(128,AV.bool v27)] [(0,.cells [Iz v0,Q0 v1,Lz v2]),(1,Gi v20)] 3 (by simp [-List.reduceReplicate,AaE,AaF,AaC,F21]) (by simp [-List.reduceReplicate,AaE,AaF,AaC,F21]) ?_;by_cases h52 : v27=true
            ·replace hF:=AaZ h52 hF;have h52_:=h52;try simp [-List.reduceReplicate] at h52_
             have F22:=A3 F21 h52 h52_;refine CT (by simp [-List.reduceReplicate,AaE,AaF,AaC,F22] <;> omega) ?_;refine SQ [] [none,none,none,none,none] fun _ _ g r=>?_;obtain ⟨h53,hF⟩:=AaR hF;have h53_:=h53;try simp [-List.reduceReplicate] at h53_
             have F23:=A2 F22 h53;try simp [-List.reduceReplicate,AaE,AaF,AaC,F23]
             and_intros <;> first | exact GK g | apply r | omega | (simp [-List.reduceReplicate,AaE,AaF,AaC,maxLen,F23] <;> omega)
             refine WK [(2,Iz v4),(3,AV.ptr 0 0),(8,Lz v7),(9,AV.lst false true (List.map AV.bool v11)),(13,AV.slc 3 0 1 ((v20++([v22] : List Int)).length) false),(14,Iz v19)] [(0,.cells [Iz v0,Q0 v1,Lz v2]),(3,Gi (v20++([v22] : List Int)))] 4 (by simp [-List.reduceReplicate,AaE,AaF,AaC,F23] <;> omega) (by simp [-List.reduceReplicate,AaE,AaF,AaC,F23]) ?_;refine AW.exit ?_;try simp [-List.reduceReplicate]
             refine hK2979 _ _ _ ?_;refine RN h0 [(0,0),(1,3)] [(2,Iz v4),(3,AV.ptr 0 0),(8,Lz v7),(9,AV.lst false true (List.map AV.bool v11)),(13,AV.slc 1 0 1 ((v20++([v22] : List Int)).length) false),(14,Iz v19)] [(0,.cells [Iz v0,Q0 v1,Lz v2]),(1,Gi (v20++([v22] : List Int)))] 2 (by simp [-List.reduceReplicate,AaE,AaF,AaC,F23]) (by simp [-List.reduceReplicate,AaE,AaF,AaC,F23]) ?_;exact JN (v20++([v22] : List Int)) hF (by simp [-List.reduceReplicate,AaE,AaF,AaC,F23]) (by simp [-List.reduceReplicate,AaE,AaF,AaC,F23])
            ·replace hF:=Aaa h52 hF;have h52_:=h52;try simp [-List.reduceReplicate] at h52_
             have F24:=A3 F21 h52 h52_;refine CF (by simp [-List.reduceReplicate,AaE,AaF,AaC,F24] <;> omega) ?_;refine AW.skip ?_;refine hK3022 _ _ _ ?_;refine RN h0 [(0,0),(1,1)] [(2,Iz v4),(3,AV.ptr 0 0),(8,Lz v7),(9,AV.lst false true (List.map AV.bool v11)),(13,AV.slc 1 0 1 v20.length false),(14,Iz v19),(15,Iz v22)] [(0,.cells [Iz v0,Q0 v1,Lz v2]),(1,Gi v20)] 2 (by simp [-List.reduceReplicate,AaE,AaF,AaC,F24]) (by simp [-List.reduceReplicate,AaE,AaF,AaC,F24]) ?_;exact JN (()) hF (by simp [-List.reduceReplicate,AaE,AaF,AaC,F24]) (by simp [-List.reduceReplicate,AaE,AaF,AaC,F24])
          ·replace hF:=Aaa h42 hF;have h42_:=AbY h42;have h42__:=Abc h42;have F25:=A9 F18 h35 h36 h37 h37_ h36_ h38 h38_ (A8 h39 h40 h41 h41_ h40_ h42 h42_ h42__);try simp [-List.reduceReplicate,AaE,AaF,AaC,F25]
           and_intros <;> first | exact GK g | apply r | omega | (simp [-List.reduceReplicate,AaE,AaF,AaC,maxLen,F25] <;> omega)
           refine WK [(2,Iz v4),(3,AV.ptr 0 0),(8,Lz v7),(9,AV.lst false true (List.map AV.bool v11)),(13,AV.slc 1 0 1 v20.length false),(14,Iz v19),(15,Iz v22),(128,AV.bool false)] [(0,.cells [Iz v0,Q0 v1,Lz v2]),(1,Gi v20)] 2 (by simp [-List.reduceReplicate,AaE,AaF,AaC,F25]) (by simp [-List.reduceReplicate,AaE,AaF,AaC,F25]) ?_;refine CF (by simp [-List.reduceReplicate,AaE,AaF,AaC,F25]) ?_;refine AW.skip ?_;refine hK3022 _ _ _ ?_;exact JN (()) hF (by simp [-List.reduceReplicate,AaE,AaF,AaC,F25]) (by simp [-List.reduceReplicate,AaE,AaF,AaC,F25])
         ·replace hF:=Aaa h38 hF;have h38_:=h38;try simp [-List.reduceReplicate] at h38_
          have F26:=A8 F18 h35 h36 h37 h37_ h36_ h38 h38_;try simp [-List.reduceReplicate,AaE,AaF,AaC,F26]
          and_intros <;> first | exact GK g | apply r | omega | (simp [-List.reduceReplicate,AaE,AaF,AaC,maxLen,F26] <;> omega)
          refine WK [(2,Iz v4),(3,AV.ptr 0 0),(8,Lz v7),(9,AV.lst false true (List.map AV.bool v11)),(13,AV.slc 1 0 1 v20.length false),(14,Iz v19),(15,Iz v22),(128,AV.bool false)] [(0,.cells [Iz v0,Q0 v1,Lz v2]),(1,Gi v20)] 2 (by simp [-List.reduceReplicate,AaE,AaF,AaC,F26]) (by simp [-List.reduceReplicate,AaE,AaF,AaC,F26]) ?_;refine CF (by simp [-List.reduceReplicate,AaE,AaF,AaC,F26]) ?_;refine AW.skip ?_;refine hK3022 _ _ _ ?_;exact JN (()) hF (by simp [-List.reduceReplicate,AaE,AaF,AaC,F26]) (by simp [-List.reduceReplicate,AaE,AaF,AaC,F26])
        ·rintro ⟨⟩ hF
         try dsimp only at hF
         unfold AaS.J7 at hF;refine RG [] [none,none,none] fun _ _ g r=>?_;try simp [-List.reduceReplicate,AaE,AaF,AaC,F18]
         and_intros <;> first | exact GK g | apply r | omega | (simp [-List.reduceReplicate,AaE,AaF,AaC,maxLen,F18] <;> omega)
         refine hK3014 _ _ _ ?_;exact NX (k':=n6) (IntKind.wrap .i64 (v22+1)) hF (by simp [-List.reduceReplicate,AaE,AaF,AaC,F18]) (by simp [-List.reduceReplicate,AaE,AaF,AaC,F18])
       ·replace hF:=Aaa h34 hF;have h34_:=h34;try simp [-List.reduceReplicate] at h34_
        have F27:=A3 F17 h34 h34_;refine CF (by simp [-List.reduceReplicate,AaE,AaF,AaC,F27] <;> omega) ?_;refine AW.exit ?_;try simp [-List.reduceReplicate]
        refine hK2979 _ _ _ ?_;exact JN (v20) hF (by simp [-List.reduceReplicate,AaE,AaF,AaC,F27]) (by simp [-List.reduceReplicate,AaE,AaF,AaC,F27])
      ·rintro v21 hF
       try dsimp only at hF
       unfold AaS.J5 at hF;refine RG [] [none,none,none] fun _ _ g r=>?_;try simp [-List.reduceReplicate,AaE,AaF,AaC,F17]
       and_intros <;> first | exact GK g | apply r | omega | (simp [-List.reduceReplicate,AaE,AaF,AaC,maxLen,F17] <;> omega)
       refine hK2928 _ _ _ ?_;exact NX (k':=n4) ((IntKind.wrap .i64 (v19+1),v21)) hF (by simp [-List.reduceReplicate,AaE,AaF,AaC,F17]) (by simp [-List.reduceReplicate,AaE,AaF,AaC,F17])
     ·replace hF:=Aaa h33 hF;have h33_:=h33;try simp [-List.reduceReplicate] at h33_
      have F28:=A3 F16 h33 h33_;refine CF (by simp [-List.reduceReplicate,AaE,AaF,AaC,F28] <;> omega) ?_;refine AW.exit ?_;try simp [-List.reduceReplicate]
      refine hK2667 _ _ _ ?_;refine SQ [] [none,none,none] fun _ _ g r=>?_;try simp [-List.reduceReplicate,AaE,AaF,AaC,F28]
      and_intros <;> first | exact GK g | apply r | omega | (simp [-List.reduceReplicate,AaE,AaF,AaC,maxLen,F28] <;> omega)
      refine RM h0 [(0,1)] [(6,AV.slc 0 0 1 v20.length false),(7,AV.bool true)] [(0,Gi v20)] 1 (by simp [-List.reduceReplicate,AaE,AaF,AaC,F28]) (by simp [-List.reduceReplicate,AaE,AaF,AaC,F28]) ?_;simp only [Option.some.injEq,Prod.mk.injEq] at hF;obtain ⟨e0,e1⟩:=hF;subst e0 e1;refine AW.ret (hQ _ _ _ ?_ (AaJ ?_)).1
      ·simp [Try.f57,F28]
      ·simp [F28]
theorem AiB (k : Nat) (v0 : Int) (v1 : (List AaA)) (v2 : (List Int)) (v3 : Int) (v4 : Int) (v5 : Int) (v6 : Int) (v7 : (List (List Int))) (hF : Aah k v0 v1 v2 v3 v4 v5 v6=some v7) :
 AbF Try.prog 28 [AV.agg [AV.int .i64 v0,Q0 v1,AV.lst false false (List.map (AV.int .i64) v2)],AV.int .i64 v3,AV.int .i64 v4,AV.int .i64 v5,AV.int .i64 v6] [] (AV.slc 0 0 1 v7.length false) [some (.grow (List.map (sl (AV.int .i64)) v7))]:=by
 unfold Aah at hF;refine EN Try.func28 ?_;intro c0 w0 Q h0 hQ
 refine WK [(0,AV.agg [Iz v0,Q0 v1,Lz v2]),(1,Iz v3),(2,Iz v4),(3,Iz v5),(4,Iz v6)] [] 0 (by simp) (by simp) ?_;refine SW trivial [] [none,none] [0] [(5,AV.ptr 0 0)] [] [(0,.cells [Iz v0,Q0 v1,Lz v2])] 1 ?_;refine AW.seq fun K685 hK685=>?_;obtain ⟨v8,h1,hF⟩:=AaN hF;refine CL trivial [] [none,none,none,none,none,none] (AfN k _ _ _ _ _ _ _ h1) [] [(23,AV.bool (!v8))] [] [] 1 ?_;by_cases h2 : (!v8)=true
 ·replace hF:=AaZ h2 hF;have h2_:=h2;try simp at h2_
  refine CT (by simp [h2,h2_] <;> omega) ?_;refine SW (A2 h2 h2_) [] [none] [1,2,3,4,5,23] [(10,AV.lst true true (List.map (sl (AV.int .i64)) ([] : List (List Int))))] [0] [] 1 ?_;refine AW.own' 10 1 true (by simp [h2,h2_]) (by decide) ?_;refine RM h0 [(0,1)] [(10,AV.slc 0 0 1 (([] : List (List Int)).length) false)] [(0,.grow (List.map (sl (AV.int .i64)) ([] : List (List Int))))] 1 (by simp [h2,h2_]) (by simp [h2,h2_]) ?_;simp only [Option.some.injEq] at hF;subst hF;refine AW.ret (hQ _ _ _ ?_ (AaJ ?_)).1
  ·simp [Try.f28,h2,h2_]
  ·simp [h2,h2_]
 ·replace hF:=Aaa h2 hF;have h2_:=h2;try simp at h2_
  refine CF (by simp [h2,h2_] <;> omega) ?_;refine AW.skip ?_;refine hK685 _ _ _ ?_;refine SR [] [none,none,none,none,none] fun _ _ g r=>?_;try simp [h2,h2_]
  and_intros
  try any_goals first | omega | (simp [h2,h2_,maxLen] <;> omega)
  obtain ⟨v9,v10,v11,h3,hF⟩:=Adw hF;refine AC (Afs k _ _ _ _ _ _ _ h3) (.cons (.same (by simp [h2,h2_])) (.cons (.same (by simp [h2,h2_])) .nil)) ?_;try simp [h2,h2_]
  and_intros
  try any_goals first | omega | (simp [h2,h2_,maxLen] <;> omega)
  obtain ⟨v12,v13,v14,h4,hF⟩:=Adw hF;refine AbA (Ad3 k _ _ _ _ _ _ h4) (by simp) [] [1] [] rfl (.cons (.agg (.cons (.same (by simp [h2,h2_])) (.cons (Coe.l (o := .grow (AaM (List.map AaA.av v10))) (by simp [h2,h2_]) rfl (by simp [h2,h2_]) (by simp [Ac5]) (by simp [h2,h2_]) (by simp [h2,h2_])) (.cons (.same (by simp [h2,h2_])) .nil)))) .nil) (by simp [h2,h2_]) (by decide) (by simp) (by simp) (.inr ⟨by simp,by simp⟩) (by simp) (by simp) ?_;refine TL (A2 h2 h2_) g r [1,23] [] [0] [(0,.cells [Iz v12,AV.slc 2 0 3 v13.length false,AV.slc 3 0 1 v14.length false]),(2,.grow (AaM (List.map AaA.av v13))),(3,Gi v14)] 4 ?_;refine AW.frz 2 (o := .grow (AaM (List.map AaA.av v13))) (by simp [h2,h2_]) rfl [] [(0,.cells [Iz v12,Q0 v13,AV.slc 3 0 1 v14.length false])] trivial ⟨⟨by simp,Aau.cells [Iz v12,AV.slc 2 0 3 v13.length false,AV.slc 3 0 1 v14.length false],by simp [h2,h2_],(.mk (.cons (.same _) (.cons (.l (by simp) (by simp) (by simp) (by simp)) (.cons (.same _) .nil))))⟩,trivial⟩ ?_;refine AW.frz 3 (o:=Gi v14) (by simp [h2,h2_]) rfl [] [(0,.cells [Iz v12,Q0 v13,Lz v14])] trivial ⟨⟨by simp,Aau.cells [Iz v12,Q0 v13,AV.slc 3 0 1 v14.length false],by simp [h2,h2_],(.mk (.cons (.same _) (.cons (.same _) (.cons (.l (by simp) (by simp) (by simp) (by simp)) .nil))))⟩,trivial⟩ ?_;refine WK [(2,Iz v4),(3,Iz v5),(4,Iz v6),(5,AV.ptr 0 0)] [(0,.cells [Iz v12,Q0 v13,Lz v14])] 4 (by simp [h2,h2_]) (by simp [h2,h2_]) ?_;refine SW (A2 h2 h2_) [] [none] [] [(11,AV.lst true true (List.map (sl (AV.int .i64)) ([] : List (List Int))))] [] [] 4 ?_;refine AW.block ?_;refine AW.own' 11 1 true (by simp [h2,h2_]) (by decide) ?_;refine RM h0 [(0,0),(1,4)] [(2,Iz v4),(3,Iz v5),(4,Iz v6),(5,AV.ptr 0 0),(11,AV.slc 1 0 1 (([] : List (List Int)).length) false)] [(0,.cells [Iz v12,Q0 v13,Lz v14]),(1,.grow (List.map (sl (AV.int .i64)) ([] : List (List Int))))] 2 (by simp [h2,h2_]) (by simp [h2,h2_]) ?_;refine AW.loopF (α:=((List AaA)×(List (List Int)))) (fun n (v15,v16)=>Aah.L1 k v4 v5 v6 v12 n v15 v16=some v7) (fun (v15,v16)=>[(2,Iz v4),(3,Iz v5),(4,Iz v6),(5,AV.ptr 0 0),(11,AV.slc 1 0 1 v16.length false)]) (fun (v15,v16)=>[(0,.cells [Iz v12,Q0 v15,Lz v14]),(1,.grow (List.map (sl (AV.int .i64)) v16))]) 2 k ((v13,([] : List (List Int)))) hF (by simp [h2,h2_]) (by simp [h2,h2_]) (by simp) ?_;rintro (_|n1) ⟨v15,v16⟩ hF K1194 hK1194
  ·try dsimp only at hF
   rw [Aah.L1] at hF; cases hF
  try dsimp only at hF
  rw [Aah.L1] at hF;refine AW.block ?_;refine SR [] [none,none,none,none,none,none,none,none,none,none,none,none,none,none] fun _ _ g r=>?_;try simp [h2,h2_]
  and_intros
  try any_goals first | omega | (simp [h2,h2_,maxLen] <;> omega)
  obtain ⟨v17,v18,h5,hF⟩:=AbX hF;refine AC (Ajm k _ _ _ _ _ _ _ h5) (.cons (.agg (.cons (.same (by simp [h2,h2_])) (.cons (.same (by simp [h2,h2_])) (.cons (Coe.fl (by simp [h2,h2_])) .nil)))) (.cons (Coe.fl (by simp [h2,h2_])) (.cons (.same (by simp [h2,h2_])) .nil))) ?_;refine TL (A2 h2 h2_) g r [] [(12,AV.slc 2 0 1 v17.length false),(13,AV.bool v18)] [] [(2,Gi v17)] 3 ?_;refine AW.frz 2 (o:=Gi v17) (by simp [h2,h2_]) rfl [(12,Lz v17)] [] ⟨(.l (by simp) (by simp) (by simp) (by simp)),trivial⟩ trivial ?_;refine WK [(2,Iz v4),(3,Iz v5),(4,Iz v6),(5,AV.ptr 0 0),(11,AV.slc 1 0 1 v16.length false),(12,Lz v17),(13,AV.bool v18)] [(0,.cells [Iz v12,Q0 v15,Lz v14]),(1,.grow (List.map (sl (AV.int .i64)) v16))] 3 (by simp [h2,h2_]) (by simp [h2,h2_]) ?_;refine AW.seq fun K1199 hK1199=>?_;refine SQ [] [none,none,none,some (42,false),some (42,false),some (42,false),some (42,false),some (42,false),none] fun _ _ g r=>?_;by_cases h6 : (!v18)=true
  ·replace hF:=AaZ h6 hF;have h6_:=h6;try simp at h6_
   have F1:=A4 h2 h2_ h6 h6_;try simp [F1]
   and_intros <;> first | exact GK g | apply r | omega | (simp [maxLen,F1] <;> omega)
   refine WK [(2,Iz v4),(3,Iz v5),(4,Iz v6),(5,AV.ptr 0 0),(11,AV.slc 1 0 1 v16.length false),(12,Lz v17),(48,AV.bool true)] [(0,.cells [Iz v12,Q0 v15,Lz v14]),(1,.grow (List.map (sl (AV.int .i64)) v16))] 3 (by simp [F1]) (by simp [F1]) ?_;refine CT (by simp [F1]) ?_;refine SQ [] [none,none] fun _ _ g r=>?_;try simp [F1]
   and_intros <;> first | exact GK g | apply r | omega | (simp [maxLen,F1] <;> omega)
   refine RM h0 [(0,1)] [(10,AV.slc 0 0 1 v16.length false)] [(0,.grow (List.map (sl (AV.int .i64)) v16))] 1 (by simp [F1]) (by simp [F1]) ?_;simp only [Option.some.injEq] at hF;subst hF;refine AW.ret (hQ _ _ _ ?_ (AaJ ?_)).1
   ·simp [Try.f28,F1]
   ·simp [F1]
  ·replace hF:=Aaa h6 hF;have h6_:=h6;try simp at h6_
   have F2:=A4 h2 h2_ h6 h6_;try simp [F2]
   and_intros <;> first | exact GK g | apply r | omega | (simp [maxLen,F2] <;> omega)
   refine WK [(2,Iz v4),(3,Iz v5),(4,Iz v6),(5,AV.ptr 0 0),(11,AV.slc 1 0 1 v16.length false),(12,Lz v17),(48,AV.bool (decide (v6<IntKind.wrap .i64 ((v17.length : Int)-1))))] [(0,.cells [Iz v12,Q0 v15,Lz v14]),(1,.grow (List.map (sl (AV.int .i64)) v16))] 3 (by simp [F2]) (by simp [F2]) ?_;by_cases h7 : v6<IntKind.wrap .i64 ((v17.length : Int)-1)
   ·replace hF:=AaZ h7 hF;have h7_:=h7;try simp at h7_
    have F3:=A3 F2 h7 h7_;refine CT (by simp [F3] <;> omega) ?_;refine SQ [] [none,none] fun _ _ g r=>?_;try simp [F3]
    and_intros <;> first | exact GK g | apply r | omega | (simp [maxLen,F3] <;> omega)
    refine RM h0 [(0,1)] [(10,AV.slc 0 0 1 v16.length false)] [(0,.grow (List.map (sl (AV.int .i64)) v16))] 1 (by simp [F3]) (by simp [F3]) ?_;simp only [Option.some.injEq] at hF;subst hF;refine AW.ret (hQ _ _ _ ?_ (AaJ ?_)).1
    ·simp [Try.f28,F3]
    ·simp [F3]
   ·replace hF:=Aaa h7 hF;have h7_:=h7;try simp at h7_
    have F4:=A3 F2 h7 h7_;refine CF (by simp [F4] <;> omega) ?_;refine AW.skip ?_;refine hK1199 _ _ _ ?_;refine SQ [] [none,none,none,none,none] fun _ _ g r=>?_;obtain ⟨h8,hF⟩:=AaR hF;have h8_:=h8;try simp at h8_
    have F5:=A2 F4 h8;try simp [F5]
    and_intros <;> first | exact GK g | apply r | omega | (simp [maxLen,F5] <;> omega)
    refine WK [(2,Iz v4),(3,Iz v5),(4,Iz v6),(5,AV.ptr 0 0),(11,AV.slc 3 0 1 ((v16++([v17] : List (List Int))).length) false),(12,Lz v17)] [(0,.cells [Iz v12,Q0 v15,Lz v14]),(3,.grow (List.map (sl (AV.int .i64)) (v16++([v17] : List (List Int)))))] 4 (by simp [F5] <;> omega) (by simp [F5]) ?_;refine SQ [] [none] fun _ _ g r=>?_;try simp [F5]
    and_intros <;> first | exact GK g | apply r | omega | (simp [maxLen,F5] <;> omega)
    refine WK [(2,Iz v4),(3,Iz v5),(4,Iz v6),(5,AV.ptr 0 0),(11,AV.slc 3 0 1 ((v16++([v17] : List (List Int))).length) false),(12,Lz v17),(14,AV.lst true true (List.map AaA.av ([] : List AaA)))] [(0,.cells [Iz v12,Q0 v15,Lz v14]),(3,.grow (List.map (sl (AV.int .i64)) (v16++([v17] : List (List Int)))))] 4 (by simp [F5] <;> omega) (by simp [F5]) ?_;refine AW.seq fun K1283 hK1283=>?_;refine SQ [] [none] fun _ _ g r=>?_;try simp [F5]
    and_intros <;> first | exact GK g | apply r | omega | (simp [maxLen,F5] <;> omega)
    refine WK [(2,Iz v4),(3,Iz v5),(4,Iz v6),(5,AV.ptr 0 0),(11,AV.slc 3 0 1 ((v16++([v17] : List (List Int))).length) false),(12,Lz v17),(14,AV.lst true true (List.map AaA.av ([] : List AaA))),(15,Iz 0)] [(0,.cells [Iz v12,Q0 v15,Lz v14]),(3,.grow (List.map (sl (AV.int .i64)) (v16++([v17] : List (List Int)))))] 4 (by simp [F5] <;> omega) (by simp [F5]) ?_;refine AW.block ?_;refine AW.own' 14 3 true (by simp [F5]) (by decide) ?_;refine RM h0 [(0,0),(1,3),(2,4)] [(2,Iz v4),(3,Iz v5),(4,Iz v6),(5,AV.ptr 0 0),(11,AV.slc 1 0 1 ((v16++([v17] : List (List Int))).length) false),(12,Lz v17),(14,AV.slc 2 0 3 (([] : List AaA).length) false),(15,Iz 0)] [(0,.cells [Iz v12,Q0 v15,Lz v14]),(1,.grow (List.map (sl (AV.int .i64)) (v16++([v17] : List (List Int))))),(2,.grow (AaM (List.map AaA.av ([] : List AaA))))] 3 (by simp [F5]) (by simp [F5]) ?_;refine AW.loopF (α:=(Int×(List AaA))) (fun n (v19,v20)=>Aah.L2 k v4 v5 v15 v16 v17 (fun v15_ v16_=>Aah.L1 k v4 v5 v6 v12 n1 v15_ v16_) n v19 v20=some v7) (fun (v19,v20)=>[(2,Iz v4),(3,Iz v5),(4,Iz v6),(5,AV.ptr 0 0),(11,AV.slc 1 0 1 ((v16++([v17] : List (List Int))).length) false),(12,Lz v17),(14,AV.slc 2 0 3 v20.length false),(15,Iz v19)]) (fun (v19,v20)=>[(0,.cells [Iz v12,Q0 v15,Lz v14]),(1,.grow (List.map (sl (AV.int .i64)) (v16++([v17] : List (List Int))))),(2,.grow (AaM (List.map AaA.av v20)))]) 3 k ((0,([] : List AaA))) hF (by simp [F5]) (by simp [F5]) (by simp) ?_;rintro (_|n2) ⟨v19,v20⟩ hF K1342 hK1342
    ·try dsimp only at hF
     rw [Aah.L2] at hF; cases hF
    try dsimp only at hF
    rw [Aah.L2] at hF;refine AW.seq fun K1344 hK1344=>?_;refine SQ [] [none,none,none,none,none] fun _ _ g r=>?_;try simp [F5]
    and_intros <;> first | exact GK g | apply r | omega | (simp [maxLen,F5] <;> omega)
    refine WK [(2,Iz v4),(3,Iz v5),(4,Iz v6),(5,AV.ptr 0 0),(11,AV.slc 1 0 1 ((v16++([v17] : List (List Int))).length) false),(12,Lz v17),(14,AV.slc 2 0 3 v20.length false),(15,Iz v19),(58,AV.bool (decide (v19<(v15.length : Int))))] [(0,.cells [Iz v12,Q0 v15,Lz v14]),(1,.grow (List.map (sl (AV.int .i64)) (v16++([v17] : List (List Int))))),(2,.grow (AaM (List.map AaA.av v20)))] 3 (by simp [F5] <;> omega) (by simp [F5]) ?_;by_cases h9 : v19<(v15.length : Int)
    ·replace hF:=AaZ h9 hF;have h9_:=h9;try simp at h9_
     have F6:=A3 F5 h9 h9_;refine CT (by simp [F6] <;> omega) ?_;refine AW.skip ?_;refine hK1344 _ _ _ ?_;refine AW.midF (α:=(List AaA)) (fun v21=>Aah.J3 k v19 (fun v19_ v20_=>Aah.L2 k v4 v5 v15 v16 v17 (fun v15_ v16_=>Aah.L1 k v4 v5 v6 v12 n1 v15_ v16_) n2 v19_ v20_) v21=some v7) (fun v21=>[(2,Iz v4),(3,Iz v5),(4,Iz v6),(5,AV.ptr 0 0),(11,AV.slc 1 0 1 ((v16++([v17] : List (List Int))).length) false),(12,Lz v17),(14,AV.slc 2 0 3 v21.length false),(15,Iz v19)]) (fun v21=>[(0,.cells [Iz v12,Q0 v15,Lz v14]),(1,.grow (List.map (sl (AV.int .i64)) (v16++([v17] : List (List Int))))),(2,.grow (AaM (List.map AaA.av v21)))]) 3 (fun K1354 hK1354=>?_) ?_
     ·refine AW.block ?_;refine SQ [] [none,none,none,none,none,none,none] fun _ _ g r=>?_;obtain ⟨v22,h10,h11,h12,hF⟩:=Aad hF;have h12_:=Aas h12;try simp at h12_
      have h11_:=h11;try simp at h11_
      have F7:=A6 F6 h10 h11 h12 h12_ h11_;try simp [F7]
      and_intros <;> first | exact GK g | apply r | omega | (simp [maxLen,F7] <;> omega)
      refine WK [(2,Iz v4),(3,Iz v5),(4,Iz v6),(5,AV.ptr 0 0),(11,AV.slc 1 0 1 ((v16++([v17] : List (List Int))).length) false),(12,Lz v17),(14,AV.slc 2 0 3 v20.length false),(15,Iz v19),(16,AV.ptr 3 0)] [(0,.cells [Iz v12,Q0 v15,Lz v14]),(1,.grow (List.map (sl (AV.int .i64)) (v16++([v17] : List (List Int))))),(2,.grow (AaM (List.map AaA.av v20))),(3,.cells [Iz v22.From,Iz v22.To,Iz v22.Level])] 4 (by simp [F7] <;> omega) (by simp [F7]) ?_;refine AW.midF (α:=Bool) (fun v23=>Aah.J4 k v4 v5 v17 v19 v20 v22 (fun v19_ v20_=>Aah.L2 k v4 v5 v15 v16 v17 (fun v15_ v16_=>Aah.L1 k v4 v5 v6 v12 n1 v15_ v16_) n2 v19_ v20_) v23=some v7) (fun v23=>[(2,Iz v4),(3,Iz v5),(4,Iz v6),(5,AV.ptr 0 0),(11,AV.slc 1 0 1 ((v16++([v17] : List (List Int))).length) false),(12,Lz v17),(14,AV.slc 2 0 3 v20.length false),(15,Iz v19),(16,AV.ptr 3 0),(17,AV.bool v23)]) (fun v23=>[(0,.cells [Iz v12,Q0 v15,Lz v14]),(1,.grow (List.map (sl (AV.int .i64)) (v16++([v17] : List (List Int))))),(2,.grow (AaM (List.map AaA.av v20))),(3,.cells [Iz v22.From,Iz v22.To,Iz v22.Level])]) 4 (fun K1361 hK1361=>?_) ?_
      ·refine RG [] [none,none,none,none,none,none,none,none,none,some (74,false),some (74,false),some (74,false),some (74,false),some (74,false),some (74,false),some (74,false),some (74,false),none,none] fun _ _ g r=>?_;obtain ⟨⟨h20,h21⟩,hF⟩:=AaR hF;have h20_:=h20;try simp at h20_
       have h21_:=h21;try simp at h21_
       have F8:=A5 F7 h20 h21 h20_ h21_;try simp [F8]
       and_intros
       try any_goals first | omega | (simp [maxLen,F8] <;> omega)
       obtain ⟨v24,h22,hF⟩:=AaN hF;refine AC (Abj k _ _ _ h22) (.cons (.same (by simp [F8])) (.cons (.same (by simp [F8])) .nil)) ?_;by_cases h23 : v24=true
       ·replace hF:=AaZ h23 hF;have h23_:=h23;try simp at h23_
        have F9:=A3 F8 h23 h23_;try simp [F9]
        and_intros <;> first | exact GK g | apply r | omega | (simp [maxLen,F9] <;> omega)
        refine hK1361 _ _ _ ?_;exact JN (true) hF (by simp [F9] <;> omega) (by simp [F9])
       ·replace hF:=Aaa h23 hF;have h23_:=h23;try simp at h23_
        obtain ⟨⟨h24,h25⟩,hF⟩:=AaR hF;have h24_:=h24;try simp at h24_
        have h25_:=h25;try simp at h25_
        have F10:=A7 F8 h23 h23_ h24 h25 h24_ h25_;try simp [F10]
        and_intros
        try any_goals first | omega | (simp [maxLen,F10] <;> omega)
        obtain ⟨v25,h26,hF⟩:=AaN hF;refine AC (Abj k _ _ _ h26) (.cons (.same (by simp [F10])) (.cons (.same (by simp [F10])) .nil)) ?_;try simp [F10]
        and_intros <;> first | exact GK g | apply r | omega | (simp [maxLen,F10] <;> omega)
        refine hK1361 _ _ _ ?_;exact JN (v25) hF (by simp [F10] <;> omega) (by simp [F10])
      ·rintro v23 hF
       try dsimp only at hF
       unfold Aah.J4 at hF;refine SQ [] [none,none,none,some (86,true),some (86,true),some (86,true),some (86,true),some (90,true),some (90,true),some (90,true),some (90,true),some (86,true),some (86,true),some (96,true),some (96,true),some (96,true),some (96,true),some (86,true),some (86,true),none] fun _ _ g r=>?_;by_cases h13 : (!v23)=true
       ·replace hF:=AaZ h13 hF;have h13_:=h13;try simp at h13_
        by_cases h14 : (v17.length : Int)=2
        ·replace hF:=AaZ h14 hF;have h14q : (v17.length : Int)=2:=h14;have h14_:=Abf h14q;have h14__:=Abe h14q;by_cases h15 : v22.From=v4
         ·replace hF:=AaZ h15 hF;have h15q : v22.From=v4:=h15;have h15_:=Abf h15q;have h15__:=Abe h15q;have F11:=A8 F7 h13 h13_ h14_ h14__ h14q h15_ h15__;try simp [F11]
          and_intros <;> first | exact GK g | apply r | omega | (simp [maxLen,F11] <;> omega)
          refine WK [(2,Iz v4),(3,Iz v5),(4,Iz v6),(5,AV.ptr 0 0),(11,AV.slc 1 0 1 ((v16++([v17] : List (List Int))).length) false),(12,Lz v17),(14,AV.slc 2 0 3 v20.length false),(15,Iz v19),(16,AV.ptr 3 0),(103,AV.bool (v22.To !=v5))] [(0,.cells [Iz v12,Q0 v15,Lz v14]),(1,.grow (List.map (sl (AV.int .i64)) (v16++([v17] : List (List Int))))),(2,.grow (AaM (List.map AaA.av v20))),(3,.cells [Iz v22.From,Iz v22.To,Iz v22.Level])] 4 (by simp [F11] <;> omega) (by simp [F11]) ?_;by_cases h16 : v22.To≠v5
          ·replace hF:=AaZ h16 hF;have h16_:=AbY h16;have h16__:=Abc h16;refine CT (by simp [F11,h16,h16_,h16__] <;> omega) ?_;refine RG [] [none,none,none,none,none] fun _ _ g r=>?_;obtain ⟨h17,hF⟩:=AaR hF;have h17_:=h17;try simp at h17_
           have F12:=A5 F11 h16 h16_ h16__ h17;try simp [F12]
           and_intros <;> first | exact GK g | apply r | omega | (simp [maxLen,F12] <;> omega)
           refine hK1354 _ _ _ ?_;refine RN h0 [(0,0),(1,1),(2,4)] [(2,Iz v4),(3,Iz v5),(4,Iz v6),(5,AV.ptr 0 0),(11,AV.slc 1 0 1 ((v16++([v17] : List (List Int))).length) false),(12,Lz v17),(14,AV.slc 2 0 3 ((v20++([v22] : List AaA)).length) false),(15,Iz v19)] [(0,.cells [Iz v12,Q0 v15,Lz v14]),(1,.grow (List.map (sl (AV.int .i64)) (v16++([v17] : List (List Int))))),(2,.grow (AaM (List.map AaA.av (v20++([v22] : List AaA)))))] 3 (by simp [F12] <;> omega) (by simp [F12]) ?_;exact JN (v20++([v22] : List AaA)) hF (by simp [F12]) (by simp [F12])
          ·replace hF:=Aaa h16 hF;have h16q : v22.To=v5:=Classical.not_not.1 h16;have h16_:=Abf h16q;have h16__:=Abe h16q;have F13:=A3 F11 h16_ h16__;refine CF (by simp [F13] <;> omega) ?_;refine AW.skip ?_;refine hK1354 _ _ _ ?_;refine RN h0 [(0,0),(1,1),(2,2)] [(2,Iz v4),(3,Iz v5),(4,Iz v6),(5,AV.ptr 0 0),(11,AV.slc 1 0 1 ((v16++([v17] : List (List Int))).length) false),(12,Lz v17),(14,AV.slc 2 0 3 v20.length false),(15,Iz v19)] [(0,.cells [Iz v12,Q0 v15,Lz v14]),(1,.grow (List.map (sl (AV.int .i64)) (v16++([v17] : List (List Int))))),(2,.grow (AaM (List.map AaA.av v20)))] 3 (by simp [F13]) (by simp [F13]) ?_;exact JN (v20) hF (by simp [F13]) (by simp [F13])
         ·replace hF:=Aaa h15 hF;have h15_:=AbY h15;have h15__:=Abc h15;have F14:=A9 F7 h13 h13_ h14_ h14__ h14q h15 h15_ h15__;try simp [F14]
          and_intros <;> first | exact GK g | apply r | omega | (simp [maxLen,F14] <;> omega)
          refine WK [(2,Iz v4),(3,Iz v5),(4,Iz v6),(5,AV.ptr 0 0),(11,AV.slc 1 0 1 ((v16++([v17] : List (List Int))).length) false),(12,Lz v17),(14,AV.slc 2 0 3 v20.length false),(15,Iz v19),(16,AV.ptr 3 0),(103,AV.bool true)] [(0,.cells [Iz v12,Q0 v15,Lz v14]),(1,.grow (List.map (sl (AV.int .i64)) (v16++([v17] : List (List Int))))),(2,.grow (AaM (List.map AaA.av v20))),(3,.cells [Iz v22.From,Iz v22.To,Iz v22.Level])] 4 (by simp [F14] <;> omega) (by simp [F14]) ?_;refine CT (by simp [F14]) ?_;refine RG [] [none,none,none,none,none] fun _ _ g r=>?_;obtain ⟨h18,hF⟩:=AaR hF;have h18_:=h18;try simp at h18_
          have F15:=A2 F14 h18;try simp [F15]
          and_intros <;> first | exact GK g | apply r | omega | (simp [maxLen,F15] <;> omega)
          refine hK1354 _ _ _ ?_;refine RN h0 [(0,0),(1,1),(2,4)] [(2,Iz v4),(3,Iz v5),(4,Iz v6),(5,AV.ptr 0 0),(11,AV.slc 1 0 1 ((v16++([v17] : List (List Int))).length) false),(12,Lz v17),(14,AV.slc 2 0 3 ((v20++([v22] : List AaA)).length) false),(15,Iz v19)] [(0,.cells [Iz v12,Q0 v15,Lz v14]),(1,.grow (List.map (sl (AV.int .i64)) (v16++([v17] : List (List Int))))),(2,.grow (AaM (List.map AaA.av (v20++([v22] : List AaA)))))] 3 (by simp [F15] <;> omega) (by simp [F15]) ?_;exact JN (v20++([v22] : List AaA)) hF (by simp [F15]) (by simp [F15])
        ·replace hF:=Aaa h14 hF;have h14_:=AbY h14;have h14__:=Abc h14;have F16:=A6 F7 h13 h13_ h14 h14_ h14__;try simp [F16]
         and_intros <;> first | exact GK g | apply r | omega | (simp [maxLen,F16] <;> omega)
         refine WK [(2,Iz v4),(3,Iz v5),(4,Iz v6),(5,AV.ptr 0 0),(11,AV.slc 1 0 1 ((v16++([v17] : List (List Int))).length) false),(12,Lz v17),(14,AV.slc 2 0 3 v20.length false),(15,Iz v19),(16,AV.ptr 3 0),(103,AV.bool true)] [(0,.cells [Iz v12,Q0 v15,Lz v14]),(1,.grow (List.map (sl (AV.int .i64)) (v16++([v17] : List (List Int))))),(2,.grow (AaM (List.map AaA.av v20))),(3,.cells [Iz v22.From,Iz v22.To,Iz v22.Level])] 4 (by simp [F16] <;> omega) (by simp [F16]) ?_;refine CT (by simp [F16]) ?_;refine RG [] [none,none,none,none,none] fun _ _ g r=>?_;obtain ⟨h19,hF⟩:=AaR hF;have h19_:=h19;try simp at h19_
         have F17:=A2 F16 h19;try simp [F17]
         and_intros <;> first | exact GK g | apply r | omega | (simp [maxLen,F17] <;> omega)
         refine hK1354 _ _ _ ?_;refine RN h0 [(0,0),(1,1),(2,4)] [(2,Iz v4),(3,Iz v5),(4,Iz v6),(5,AV.ptr 0 0),(11,AV.slc 1 0 1 ((v16++([v17] : List (List Int))).length) false),(12,Lz v17),(14,AV.slc 2 0 3 ((v20++([v22] : List AaA)).length) false),(15,Iz v19)] [(0,.cells [Iz v12,Q0 v15,Lz v14]),(1,.grow (List.map (sl (AV.int .i64)) (v16++([v17] : List (List Int))))),(2,.grow (AaM (List.map AaA.av (v20++([v22] : List AaA)))))] 3 (by simp [F17] <;> omega) (by simp [F17]) ?_;exact JN (v20++([v22] : List AaA)) hF (by simp [F17]) (by simp [F17])
       ·replace hF:=Aaa h13 hF;have h13_:=h13;try simp at h13_
        have F18:=A3 F7 h13 h13_;try simp [F18]
        and_intros <;> first | exact GK g | apply r | omega | (simp [maxLen,F18] <;> omega)
        refine WK [(2,Iz v4),(3,Iz v5),(4,Iz v6),(5,AV.ptr 0 0),(11,AV.slc 1 0 1 ((v16++([v17] : List (List Int))).length) false),(12,Lz v17),(14,AV.slc 2 0 3 v20.length false),(15,Iz v19),(16,AV.ptr 3 0),(103,AV.bool false)] [(0,.cells [Iz v12,Q0 v15,Lz v14]),(1,.grow (List.map (sl (AV.int .i64)) (v16++([v17] : List (List Int))))),(2,.grow (AaM (List.map AaA.av v20))),(3,.cells [Iz v22.From,Iz v22.To,Iz v22.Level])] 4 (by simp [F18] <;> omega) (by simp [F18]) ?_;refine CF (by simp [F18]) ?_;refine AW.skip ?_;refine hK1354 _ _ _ ?_;refine RN h0 [(0,0),(1,1),(2,2)] [(2,Iz v4),(3,Iz v5),(4,Iz v6),(5,AV.ptr 0 0),(11,AV.slc 1 0 1 ((v16++([v17] : List (List Int))).length) false),(12,Lz v17),(14,AV.slc 2 0 3 v20.length false),(15,Iz v19)] [(0,.cells [Iz v12,Q0 v15,Lz v14]),(1,.grow (List.map (sl (AV.int .i64)) (v16++([v17] : List (List Int))))),(2,.grow (AaM (List.map AaA.av v20)))] 3 (by simp [F18]) (by simp [F18]) ?_;exact JN (v20) hF (by simp [F18]) (by simp [F18])
     ·rintro v21 hF
      try dsimp only at hF
      unfold Aah.J3 at hF;refine RG [] [none,none,none] fun _ _ g r=>?_;try simp [F6]
      and_intros <;> first | exact GK g | apply r | omega | (simp [maxLen,F6] <;> omega)
      refine hK1342 _ _ _ ?_;exact NX (k':=n2) ((IntKind.wrap .i64 (v19+1),v21)) hF (by simp [F6] <;> omega) (by simp [F6])
    ·replace hF:=Aaa h9 hF;have h9_:=h9;try simp at h9_
     have F19:=A3 F5 h9 h9_;refine CF (by simp [F19] <;> omega) ?_;refine AW.exit ?_;try simp
     refine hK1283 _ _ _ ?_;refine WK [(2,Iz v4),(3,Iz v5),(4,Iz v6),(5,AV.ptr 0 0),(11,AV.slc 1 0 1 ((v16++([v17] : List (List Int))).length) false),(14,AV.slc 2 0 3 v20.length false)] [(0,.cells [Iz v12,Q0 v15,Lz v14]),(1,.grow (List.map (sl (AV.int .i64)) (v16++([v17] : List (List Int))))),(2,.grow (AaM (List.map AaA.av v20)))] 3 (by simp [F19] <;> omega) (by simp [F19]) ?_;refine AW.frz 2 (o := .grow (AaM (List.map AaA.av v20))) (by simp [F19]) rfl [(14,Q0 v20)] [] ⟨(.l (by simp) (by simp) (by simp) (by simp)),trivial⟩ trivial ?_;refine WK [(2,Iz v4),(3,Iz v5),(4,Iz v6),(5,AV.ptr 0 0),(11,AV.slc 1 0 1 ((v16++([v17] : List (List Int))).length) false),(14,Q0 v20)] [(0,.cells [Iz v12,Q0 v15,Lz v14]),(1,.grow (List.map (sl (AV.int .i64)) (v16++([v17] : List (List Int)))))] 3 (by simp [F19] <;> omega) (by simp [F19]) ?_;refine RG [] [none,none,none] fun _ _ g r=>?_;try simp [F19]
     and_intros <;> first | exact GK g | apply r | omega | (simp [maxLen,F19] <;> omega)
     refine hK1194 _ _ _ ?_;refine RN h0 [(0,0),(1,1)] [(2,Iz v4),(3,Iz v5),(4,Iz v6),(5,AV.ptr 0 0),(11,AV.slc 1 0 1 ((v16++([v17] : List (List Int))).length) false)] [(0,.cells [Iz v12,Q0 v20,Lz v14]),(1,.grow (List.map (sl (AV.int .i64)) (v16++([v17] : List (List Int)))))] 2 (by simp [F19] <;> omega) (by simp [F19]) ?_;exact NX (k':=n1) ((v20,v16++([v17] : List (List Int)))) hF (by simp [F19]) (by simp [F19])
theorem Ait (k : Nat) (v0 : Int) (v1 : (List AaA)) (v2 : (List Int)) (v3 : Int) (v4 : Int) (v5 : (List Int)) (v6 : Bool) (hF : AbL k v0 v1 v2 v3 v4 v5=some v6) :
 AbF Try.prog 60 [AV.agg [AV.int .i64 v0,Q0 v1,AV.lst false false (List.map (AV.int .i64) v2)],AV.int .i64 v3,AV.int .i64 v4,AV.lst false false (List.map (AV.int .i64) v5)] [] (AV.bool v6) []:=by
 unfold AbL at hF;refine EN Try.func60 ?_;intro c0 w0 Q h0 hQ
 refine WK [(0,AV.agg [Iz v0,Q0 v1,Lz v2]),(1,Iz v3),(2,Iz v4),(3,Lz v5)] [] 0 (by simp) (by simp) ?_;refine SW trivial [] [none,none] [0] [(4,AV.ptr 0 0)] [] [(0,.cells [Iz v0,Q0 v1,Lz v2])] 1 ?_;refine AW.seq fun K102 hK102=>?_;refine SR [] [none,none,none,none,some (13,false),some (13,false),some (13,false),some (13,false),some (13,false),none,none,some (20,false),some (20,false),some (20,false),some (20,false),some (20,false),some (20,false),some (20,false),some (20,false),none] fun _ _ g r=>?_;by_cases h1 : (v5.length : Int)<2
 ·replace hF:=AaZ h1 hF;have h1_:=h1;try simp at h1_
  refine TL (A2 h1 h1_) g r [1,2] [(29,AV.bool true)] [] [] 1 ?_;refine CT (by simp [h1,h1_]) ?_;refine SW (A2 h1 h1_) [] [none] [3,4,29] [(8,AV.bool false)] [0] [] 1 ?_;simp only [Option.some.injEq] at hF;subst hF;refine AW.ret (hQ _ _ _ ?_ (AaJ ?_)).1
  ·simp [Try.f60,h1,h1_]
  ·simp [h1,h1_]
 ·replace hF:=Aaa h1 hF;have h1_:=h1;try simp at h1_
  obtain ⟨v7,h2,h3,h4,hF⟩:=Aad hF;have h4_:=Aas h4;try simp at h4_
  have h3_:=h3;try simp at h3_
  have h4z:=Aew h4;by_cases h5 : v7≠v3
  ·replace hF:=AaZ h5 hF;have h5_:=AbY h5;have h5__:=Abc h5;have F1:=A9 h1 h1_ h2 h3 h4 h4_ h3_ h4z (A3 h5 h5_ h5__);refine TL F1 g r [1,2] [(29,AV.bool true)] [] [] 1 ?_;refine CT (by simp [F1]) ?_;refine SW F1 [] [none] [3,4,29] [(8,AV.bool false)] [0] [] 1 ?_;simp only [Option.some.injEq] at hF;subst hF;refine AW.ret (hQ _ _ _ ?_ (AaJ ?_)).1
   ·simp [Try.f60,F1]
   ·simp [F1]
  ·replace hF:=Aaa h5 hF;have h5q : v7=v3:=Classical.not_not.1 h5;have h5_:=Abf h5q;have h5__:=Abe h5q;obtain ⟨v8,h6,h7,h8,hF⟩:=Aad hF;have h8_:=Aas h8;try simp at h8_
   have h7_:=h7;try simp at h7_
   have F2:=A9 h1 h1_ h2 h3 h4 h4_ h3_ h4z (A7 h5_ h5__ h6 h7 h8 h8_ h7_);refine TL F2 g r [1,2] [(29,AV.bool (v8 !=v4))] [] [] 1 ?_;by_cases h9 : v8≠v4
   ·replace hF:=AaZ h9 hF;have h9_:=AbY h9;have h9__:=Abc h9;have F3:=A4 F2 h9 h9_ h9__;refine CT (by simp [F3] <;> omega) ?_;refine SW F3 [] [none] [3,4,29] [(8,AV.bool false)] [0] [] 1 ?_;simp only [Option.some.injEq] at hF;subst hF;refine AW.ret (hQ _ _ _ ?_ (AaJ ?_)).1
    ·simp [Try.f60,F3]
    ·simp [F3]
   ·replace hF:=Aaa h9 hF;have h9q : v8=v4:=Classical.not_not.1 h9;have h9_:=Abf h9q;have h9__:=Abe h9q;have F4:=A3 F2 h9_ h9__;refine CF (by simp [F4] <;> omega) ?_;refine AW.skip ?_;refine hK102 _ _ _ ?_;refine AW.seq fun K149 hK149=>?_;refine SW F4 [] [none] [29] [(9,Iz 0)] [] [] 1 ?_;refine AW.block ?_;refine AW.loopF (α:=Int) (fun n v9=>AbL.L1 k v0 v1 v2 v5 n v9=some v6) (fun v9=>[(3,Lz v5),(4,AV.ptr 0 0),(9,Iz v9)]) (fun v9=>[(0,.cells [Iz v0,Q0 v1,Lz v2])]) 1 k (0) hF (by simp [F4]) (by simp [F4]) (by simp) ?_;rintro (_|n1) v9 hF K180 hK180
    ·try dsimp only at hF
     rw [AbL.L1] at hF; cases hF
    try dsimp only at hF
    rw [AbL.L1] at hF;refine AW.seq fun K182 hK182=>?_;refine SW F4 [] [none,none,none,none] [] [(33,AV.bool (decide (v9<(v5.length : Int))))] [] [] 1 ?_;by_cases h10 : v9<(v5.length : Int)
    ·replace hF:=AaZ h10 hF;have h10_:=h10;try simp at h10_
     have F5:=A3 F4 h10 h10_;refine CT (by simp [F5] <;> omega) ?_;refine AW.skip ?_;refine hK182 _ _ _ ?_;refine AW.midF (α:=Unit) (fun _=>AbL.J2 k v9 (fun v9_=>AbL.L1 k v0 v1 v2 v5 n1 v9_)=some v6) (fun _=>[(3,Lz v5),(4,AV.ptr 0 0),(9,Iz v9)]) (fun _=>[(0,.cells [Iz v0,Q0 v1,Lz v2])]) 1 (fun K188 hK188=>?_) ?_
     ·refine AW.block ?_;refine SR [] [none,none,none,none,none,none,none,none,none,some (44,false),some (44,false),some (44,false),some (47,true),some (47,true),some (47,true),some (47,true),some (47,true),some (47,true),some (47,true),some (47,true),some (47,true),some (47,true),some (47,true),some (47,true),some (47,true),some (44,false),none] fun _ _ g r=>?_;obtain ⟨⟨h11,h12⟩,hF⟩:=AaR hF;have h11_:=h11;try simp at h11_
      have h12_:=h12;try simp at h12_
      obtain ⟨v10,h13,h14,h15,hF⟩:=Aad hF;have h15_:=Aas h15;try simp at h15_
      have h14_:=h14;try simp at h14_
      have F6:=A9 F5 h11 h12 h11_ h12_ h13 h14 h15 (A2 h15_ h14_);try simp [F6]
      and_intros
      try any_goals first | omega | (simp [maxLen,F6] <;> omega)
      obtain ⟨v11,h16,hF⟩:=AaN hF;refine AC (Abj k _ _ _ h16) (.cons (.same (by simp [F6])) (.cons (.same (by simp [F6])) .nil)) ?_;by_cases h17 : v11=true
      ·replace hF:=AaZ h17 hF;have h17_:=h17;try simp at h17_
       have F7:=A3 F6 h17 h17_;refine TL F7 g r [] [(62,AV.bool true)] [] [] 1 ?_;refine CT (by simp [F7]) ?_;refine SW F7 [] [none] [3,4,9,62] [(8,AV.bool false)] [0] [] 1 ?_;simp only [Option.some.injEq] at hF;subst hF;refine AW.ret (hQ _ _ _ ?_ (AaJ ?_)).1
       ·simp [Try.f60,F7]
       ·simp [F7]
      ·replace hF:=Aaa h17 hF;have h17_:=h17;try simp at h17_
       by_cases h18 : 0<v9
       ·replace hF:=AaZ h18 hF;have h18_:=h18;try simp at h18_
        obtain ⟨v12,h19,h20,h21,hF⟩:=Aad hF;have h21_:=Aas h21;try simp at h21_
        have h20_:=h20;try simp at h20_
        have F8:=A9 F6 h17 h17_ h18 h18_ h19 h20 h21 (A2 h21_ h20_);try simp [F8]
        and_intros
        try any_goals first | omega | (simp [maxLen,F8] <;> omega)
        obtain ⟨v13,h22,hF⟩:=AaN hF;refine AC (Agy k _ _ _ _ _ h22) (.cons (.same (by simp [F8])) (.cons (.same (by simp [F8])) .nil)) ?_;try simp [F8]
        and_intros
        try any_goals first | omega | (simp [maxLen,F8] <;> omega)
        obtain ⟨v14,h23,hF⟩:=AaN hF;refine AbA (Abj k _ _ _ h23) (by simp) [] [1] [] rfl (.cons (Coe.l (o:=Gi v13) (by simp [F8]) rfl (by simp [F8]) (by simp [Ac5]) (by simp [F8]) (by simp [F8])) (.cons (.same (by simp [F8])) .nil)) (by simp [F8]) (by decide) (by simp) (by simp) (.inr ⟨by simp,by simp⟩) (by simp) (by simp) ?_;refine TL F8 g r [] [(62,AV.bool (!v14))] [] [] 2 ?_;by_cases h24 : (!v14)=true
        ·replace hF:=AaZ h24 hF;have h24_:=h24;try simp at h24_
         have F9:=A3 F8 h24 h24_;refine CT (by simp [F9] <;> omega) ?_;refine SW F9 [] [none] [3,4,9,62] [(8,AV.bool false)] [0] [] 2 ?_;simp only [Option.some.injEq] at hF;subst hF;refine AW.ret (hQ _ _ _ ?_ (AaJ ?_)).1
         ·simp [Try.f60,F9]
         ·simp [F9]
        ·replace hF:=Aaa h24 hF;have h24_:=h24;try simp at h24_
         have F10:=A3 F8 h24 h24_;refine CF (by simp [F10] <;> omega) ?_;refine AW.skip ?_;refine hK188 _ _ _ ?_;refine RN h0 [(0,0)] [(3,Lz v5),(4,AV.ptr 0 0),(9,Iz v9)] [(0,.cells [Iz v0,Q0 v1,Lz v2])] 1 (by simp [F10]) (by simp [F10]) ?_;exact JN (()) hF (by simp [F10]) (by simp [F10])
       ·replace hF:=Aaa h18 hF;have h18_:=h18;try simp at h18_
        have F11:=A5 F6 h17 h17_ h18 h18_;refine TL F11 g r [] [(62,AV.bool false)] [] [] 1 ?_;refine CF (by simp [F11]) ?_;refine AW.skip ?_;refine hK188 _ _ _ ?_;exact JN (()) hF (by simp [F11]) (by simp [F11])
     ·rintro ⟨⟩ hF
      try dsimp only at hF
      unfold AbL.J2 at hF;refine RG [] [none,none,none] fun _ _ g r=>?_;try simp [F5]
      and_intros <;> first | exact GK g | apply r | omega | (simp [maxLen,F5] <;> omega)
      refine hK180 _ _ _ ?_;exact NX (k':=n1) (IntKind.wrap .i64 (v9+1)) hF (by simp [F5]) (by simp [F5])
    ·replace hF:=Aaa h10 hF;have h10_:=h10;try simp at h10_
     have F12:=A3 F4 h10 h10_;refine CF (by simp [F12] <;> omega) ?_;refine AW.exit ?_;try simp
     refine hK149 _ _ _ ?_;refine SW F12 [] [none] [3,4,9] [(8,AV.bool true)] [0] [] 1 ?_;simp only [Option.some.injEq] at hF;subst hF;refine AW.ret (hQ _ _ _ ?_ (AaJ ?_)).1
     ·simp [Try.f60,F12]
     ·simp [F12]
theorem AdZ (k : Nat) (v0 : Int) (v1 : (List AaA)) (v2 : (List Int)) (v3 : Int) (v4 : Int) (v5 : Int) (v6 : (List (List Int))) (v7 : Bool) (hF : Aal k v0 v1 v2 v3 v4 v5 v6=some v7) :
 AbF Try.prog 30 [AV.agg [AV.int .i64 v0,Q0 v1,AV.lst false false (List.map (AV.int .i64) v2)],AV.int .i64 v3,AV.int .i64 v4,AV.int .i64 v5,AV.lst false false (List.map (sl (AV.int .i64)) v6)] [] (AV.bool v7) []:=by
 unfold Aal at hF;refine EN Try.func30 ?_;intro c0 w0 Q h0 hQ
 refine WK [(0,AV.agg [Iz v0,Q0 v1,Lz v2]),(1,Iz v3),(2,Iz v4),(3,Iz v5),(4,AV.lst false false (List.map (sl (AV.int .i64)) v6))] [] 0 (by simp) (by simp) ?_;refine SW trivial [] [none,none] [0] [(5,AV.ptr 0 0)] [] [(0,.cells [Iz v0,Q0 v1,Lz v2])] 1 ?_;refine AW.seq fun K1339 hK1339=>?_;obtain ⟨v8,h1,hF⟩:=AaN hF;refine CL trivial [] [none,none,none,none,none,none] (AfN k _ _ _ _ _ _ _ h1) [] [(20,AV.bool (!v8))] [] [] 1 ?_;by_cases h2 : (!v8)=true
 ·replace hF:=AaZ h2 hF;have h2_:=h2;try simp at h2_
  refine CT (by simp [h2,h2_] <;> omega) ?_;refine SW (A2 h2 h2_) [] [none,none,none,none] [1,2,3,4,5,20] [(10,AV.bool ((v6.length : Int)==0))] [0] [] 1 ?_;simp only [Option.some.injEq] at hF;subst hF;refine AW.ret (hQ _ _ _ ?_ (AaJ ?_)).1
  ·simp [Try.f30,h2,h2_]
  ·simp [h2,h2_]
 ·replace hF:=Aaa h2 hF;have h2_:=h2;try simp at h2_
  refine CF (by simp [h2,h2_] <;> omega) ?_;refine AW.skip ?_;refine hK1339 _ _ _ ?_;obtain ⟨v9,v10,v11,h3,hF⟩:=Adw hF;refine CL (A2 h2 h2_) [] [none,none,none,none] (Afs k _ _ _ _ _ _ _ h3) [1,20] [] [0] [(0,.cells [Iz v9,AV.slc 1 0 3 v10.length false,Lz v11]),(1,.grow (AaM (List.map AaA.av v10)))] 2 ?_;refine AW.frz 1 (o := .grow (AaM (List.map AaA.av v10))) (by simp [h2,h2_]) rfl [] [(0,.cells [Iz v9,Q0 v10,Lz v11])] trivial ⟨⟨by simp,Aau.cells [Iz v9,AV.slc 1 0 3 v10.length false,Lz v11],by simp [h2,h2_],(.mk (.cons (.same _) (.cons (.l (by simp) (by simp) (by simp) (by simp)) (.cons (.same _) .nil))))⟩,trivial⟩ ?_;refine WK [(2,Iz v4),(3,Iz v5),(4,AV.lst false false (List.map (sl (AV.int .i64)) v6)),(5,AV.ptr 0 0)] [(0,.cells [Iz v9,Q0 v10,Lz v11])] 2 (by simp [h2,h2_]) (by simp [h2,h2_]) ?_;refine SW (A2 h2 h2_) [] [none] [] [(11,AV.lst true true (List.map (AV.int .i64) ([] : List Int)))] [] [] 2 ?_;refine SW (A2 h2 h2_) [] [none] [] [(12,Iz 0)] [] [] 2 ?_;refine AW.seq fun K2007 hK2007=>?_;refine SW (A2 h2 h2_) [] [none] [] [(13,Iz 0)] [] [] 2 ?_;refine AW.block ?_;refine AW.own' 11 1 true (by simp [h2,h2_]) (by decide) ?_;refine RM h0 [(0,0),(1,2)] [(2,Iz v4),(3,Iz v5),(4,AV.lst false false (List.map (sl (AV.int .i64)) v6)),(5,AV.ptr 0 0),(11,AV.slc 1 0 1 (([] : List Int).length) false),(12,Iz 0),(13,Iz 0)] [(0,.cells [Iz v9,Q0 v10,Lz v11]),(1,Gi ([] : List Int))] 2 (by simp [h2,h2_]) (by simp [h2,h2_]) ?_;refine AW.loopF (α:=(Int×Int×(List Int))) (fun n (v12,v13,v14)=>Aal.L1 k v4 v5 v6 v9 v10 v11 n v12 v13 v14=some v7) (fun (v12,v13,v14)=>[(2,Iz v4),(3,Iz v5),(4,AV.lst false false (List.map (sl (AV.int .i64)) v6)),(5,AV.ptr 0 0),(11,AV.slc 1 0 1 v14.length false),(12,Iz v12),(13,Iz v13)]) (fun (v12,v13,v14)=>[(0,.cells [Iz v9,Q0 v10,Lz v11]),(1,Gi v14)]) 2 k ((0,0,([] : List Int))) hF (by simp [h2,h2_]) (by simp [h2,h2_]) (by simp) ?_;rintro (_|n1) ⟨v12,v13,v14⟩ hF K2504 hK2504
  ·try dsimp only at hF
   rw [Aal.L1] at hF; cases hF
  try dsimp only at hF
  rw [Aal.L1] at hF;refine AW.seq fun K2506 hK2506=>?_;refine SW (A2 h2 h2_) [] [none,none,none,none] [] [(30,AV.bool (decide (v13<(v6.length : Int))))] [] [] 2 ?_;by_cases h4 : v13<(v6.length : Int)
  ·replace hF:=AaZ h4 hF;have h4_:=h4;try simp at h4_
   have F1:=A4 h2 h2_ h4 h4_;refine CT (by simp [F1] <;> omega) ?_;refine AW.skip ?_;refine hK2506 _ _ _ ?_;refine AW.seq fun K2588 hK2588=>?_;refine AW.block ?_;refine AW.seq fun K2591 hK2591=>?_;refine SR [] [none,none,none,none,none,none,none,none,none] fun _ _ g r=>?_;obtain ⟨v15,h5,h6,h7,hF⟩:=Aad hF;have h7_:=Aas h7;try simp at h7_
   have h6_:=h6;try simp at h6_
   have F2:=A6 F1 h5 h6 h7 h7_ h6_;try simp [F2]
   and_intros
   try any_goals first | omega | (simp [maxLen,F2] <;> omega)
   obtain ⟨v16,h8,hF⟩:=AaN hF;refine AC (Ait k _ _ _ _ _ _ _ h8) (.cons (.same (by simp [F2])) (.cons (.same (by simp [F2])) (.cons (.same (by simp [F2])) (.cons (.same (by simp [F2])) .nil)))) ?_;refine TL F2 g r [] [(41,AV.bool (!v16))] [] [] 2 ?_;by_cases h9 : (!v16)=true
   ·replace hF:=AaZ h9 hF;have h9_:=h9;try simp at h9_
    have F3:=A3 F2 h9 h9_;refine CT (by simp [F3] <;> omega) ?_;refine SW F3 [] [none] [2,3,4,5,11,12,13,41] [(10,AV.bool false)] [0,1] [] 2 ?_;simp only [Option.some.injEq] at hF;subst hF;refine AW.ret (hQ _ _ _ ?_ (AaJ ?_)).1
    ·simp [Try.f30,F3]
    ·simp [F3]
   ·replace hF:=Aaa h9 hF;have h9_:=h9;try simp at h9_
    have F4:=A3 F2 h9 h9_;refine CF (by simp [F4] <;> omega) ?_;refine AW.skip ?_;refine hK2591 _ _ _ ?_;refine AW.midF (α:=Int) (fun v17=>Aal.J2 k v13 v14 v15 (fun v12_ v13_ v14_=>Aal.L1 k v4 v5 v6 v9 v10 v11 n1 v12_ v13_ v14_) v17=some v7) (fun v17=>[(2,Iz v4),(3,Iz v5),(4,AV.lst false false (List.map (sl (AV.int .i64)) v6)),(5,AV.ptr 0 0),(11,AV.slc 1 0 1 v14.length false),(12,Iz v17),(13,Iz v13)]) (fun v17=>[(0,.cells [Iz v9,Q0 v10,Lz v11]),(1,Gi v14)]) 2 (fun K2667 hK2667=>?_) ?_
    ·refine SW F4 [] [none,none,none,none,none,none] [41] [(47,AV.bool ((v15.length : Int)==2))] [] [] 2 ?_;by_cases h17 : (v15.length : Int)=2
     ·replace hF:=AaZ h17 hF;have h17q : (v15.length : Int)=2:=h17;have h17_:=Abf h17q;have h17__:=Abe h17q;have F5:=A4 F4 h17_ h17__ h17q;refine CT (by simp [F5] <;> omega) ?_;refine RG [] [none,none,none] fun _ _ g r=>?_;try simp [F5]
      and_intros <;> first | exact GK g | apply r | omega | (simp [maxLen,F5] <;> omega)
      refine hK2667 _ _ _ ?_;exact JN (IntKind.wrap .i64 (v12+1)) hF (by simp [F5]) (by simp [F5])
     ·replace hF:=Aaa h17 hF;have h17_:=AbY h17;have h17__:=Abc h17;have F6:=A4 F4 h17 h17_ h17__;refine CF (by simp [F6] <;> omega) ?_;refine AW.skip ?_;refine hK2667 _ _ _ ?_;exact JN (v12) hF (by simp [F6]) (by simp [F6])
    ·rintro v17 hF
     try dsimp only at hF
     unfold Aal.J2 at hF;refine SW F4 [] [none] [] [(14,Iz 1)] [] [] 2 ?_;refine AW.block ?_;refine AW.loopF (α:=(Int×(List Int))) (fun n (v18,v19)=>Aal.L3 k v13 v15 v17 (fun v12_ v13_ v14_=>Aal.L1 k v4 v5 v6 v9 v10 v11 n1 v12_ v13_ v14_) n v18 v19=some v7) (fun (v18,v19)=>[(2,Iz v4),(3,Iz v5),(4,AV.lst false false (List.map (sl (AV.int .i64)) v6)),(5,AV.ptr 0 0),(11,AV.slc 1 0 1 v19.length false),(12,Iz v17),(13,Iz v13),(14,Iz v18)]) (fun (v18,v19)=>[(0,.cells [Iz v9,Q0 v10,Lz v11]),(1,Gi v19)]) 2 k ((1,v14)) hF (by simp [F4]) (by simp [F4]) (by simp) ?_;rintro (_|n3) ⟨v18,v19⟩ hF K2648 hK2648
     ·try dsimp only at hF
      rw [Aal.L3] at hF; cases hF
     try dsimp only at hF
     rw [Aal.L3] at hF;refine AW.seq fun K2650 hK2650=>?_;refine SW F4 [] [none,none,none,none,none,none,none,none] [] [(57,AV.bool (decide (IntKind.wrap .i64 (v18+1)<(v15.length : Int))))] [] [] 2 ?_;by_cases h10 : IntKind.wrap .i64 (v18+1)<(v15.length : Int)
     ·replace hF:=AaZ h10 hF;have h10_:=h10;try simp at h10_
      have F7:=A3 F4 h10 h10_;refine CT (by simp [F7] <;> omega) ?_;refine AW.skip ?_;refine hK2650 _ _ _ ?_;refine AW.seq fun K2658 hK2658=>?_;refine AW.block ?_;refine AW.seq fun K2661 hK2661=>?_;refine SR [] [none,none,none,none,none,none,none,none,none] fun _ _ g r=>?_;obtain ⟨v20,h11,h12,h13,hF⟩:=Aad hF;have h13_:=Aas h13;try simp at h13_
      have h12_:=h12;try simp at h12_
      have F8:=A6 F7 h11 h12 h13 h13_ h12_;try simp [F8]
      and_intros
      try any_goals first | omega | (simp [maxLen,F8] <;> omega)
      obtain ⟨v21,h14,hF⟩:=AaN hF;refine AbA (Abj k _ _ _ h14) (by simp) [] [1] [] rfl (.cons (Coe.l (o:=Gi v19) (by simp [F8]) rfl (by simp [F8]) (by simp [Ac5]) (by simp [F8]) (by simp [F8])) (.cons (.same (by simp [F8])) .nil)) (by simp [F8]) (by decide) (by simp) (by simp) (.inr ⟨by simp,by simp⟩) (by simp) (by simp) ?_;refine TL F8 g r [] [(68,AV.bool v21)] [] [] 2 ?_;by_cases h15 : v21=true
      ·replace hF:=AaZ h15 hF;have h15_:=h15;try simp at h15_
       have F9:=A3 F8 h15 h15_;refine CT (by simp [F9] <;> omega) ?_;refine SW F9 [] [none] [2,3,4,5,11,12,13,14,68] [(10,AV.bool false)] [0,1] [] 2 ?_;simp only [Option.some.injEq] at hF;subst hF;refine AW.ret (hQ _ _ _ ?_ (AaJ ?_)).1
       ·simp [Try.f30,F9]
       ·simp [F9]
      ·replace hF:=Aaa h15 hF;have h15_:=h15;try simp at h15_
       have F10:=A3 F8 h15 h15_;refine CF (by simp [F10] <;> omega) ?_;refine AW.skip ?_;refine hK2661 _ _ _ ?_;refine RG [] [none,none,none,none,none,none,none,none,none,none,none] fun _ _ g r=>?_;obtain ⟨h16,hF⟩:=AaR hF;have h16_:=h16;try simp at h16_
       have F11:=A2 F10 h16;try simp [F11]
       and_intros <;> first | exact GK g | apply r | omega | (simp [maxLen,F11] <;> omega)
       refine hK2658 _ _ _ ?_;refine WK [(2,Iz v4),(3,Iz v5),(4,AV.lst false false (List.map (sl (AV.int .i64)) v6)),(5,AV.ptr 0 0),(11,AV.slc 2 0 1 ((v19++([v20] : List Int)).length) false),(12,Iz v17),(13,Iz v13),(14,Iz v18)] [(0,.cells [Iz v9,Q0 v10,Lz v11]),(2,Gi (v19++([v20] : List Int)))] 3 (by simp [F11] <;> omega) (by simp [F11]) ?_;refine RG [] [none,none,none] fun _ _ g r=>?_;try simp [F11]
       and_intros <;> first | exact GK g | apply r | omega | (simp [maxLen,F11] <;> omega)
       refine hK2648 _ _ _ ?_;refine RN h0 [(0,0),(1,2)] [(2,Iz v4),(3,Iz v5),(4,AV.lst false false (List.map (sl (AV.int .i64)) v6)),(5,AV.ptr 0 0),(11,AV.slc 1 0 1 ((v19++([v20] : List Int)).length) false),(12,Iz v17),(13,Iz v13),(14,Iz (IntKind.wrap .i64 (v18+1)))] [(0,.cells [Iz v9,Q0 v10,Lz v11]),(1,Gi (v19++([v20] : List Int)))] 2 (by simp [F11] <;> omega) (by simp [F11]) ?_;exact NX (k':=n3) ((IntKind.wrap .i64 (v18+1),v19++([v20] : List Int))) hF (by simp [F11]) (by simp [F11])
     ·replace hF:=Aaa h10 hF;have h10_:=h10;try simp at h10_
      have F12:=A3 F4 h10 h10_;refine CF (by simp [F12] <;> omega) ?_;refine AW.exit ?_;try simp
      refine hK2588 _ _ _ ?_;refine RG [] [none,none,none] fun _ _ g r=>?_;try simp [F12]
      and_intros <;> first | exact GK g | apply r | omega | (simp [maxLen,F12] <;> omega)
      refine hK2504 _ _ _ ?_;exact NX (k':=n1) ((v17,IntKind.wrap .i64 (v13+1),v19)) hF (by simp [F12]) (by simp [F12])
  ·replace hF:=Aaa h4 hF;have h4_:=h4;try simp at h4_
   have F13:=A4 h2 h2_ h4 h4_;refine CF (by simp [F13] <;> omega) ?_;refine AW.exit ?_;try simp
   refine hK2007 _ _ _ ?_;refine SW F13 [] [none,none,none] [2,3,4,5,11,12,13] [(10,AV.bool (decide (v12≤1)))] [0,1] [] 2 ?_;simp only [Option.some.injEq] at hF;subst hF;refine AW.ret (hQ _ _ _ ?_ (AaJ ?_)).1
   ·simp [Try.f30,F13]
   ·simp [F13]
end Go.TF
