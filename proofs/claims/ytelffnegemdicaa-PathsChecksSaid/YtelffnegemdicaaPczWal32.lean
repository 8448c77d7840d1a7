import Derived.Test.YtelffnegemdicaaPczWal30
import Derived.Test.YtelffnegemdicaaPczWal31
set_option linter.unusedVariables false
set_option linter.unusedSimpArgs false
set_option maxRecDepth 100000
set_option maxHeartbeats 4000000
namespace Go.TF
open Go Go.Abs Go.Proofs Go.Proofs.YtelffnegemdicaaPcT
abbrev Aar (v0 : Int) (v1 : (List AaI)) (v2 : (List Int)) (v3 : (List (List AaD))) : Aau := .cells [Iz v0,Q1 v1,AV.slc 0 0 1 v2.length false,AV.lst false false (List.map (sl AaD.av) v3)]
theorem AfK (k : Nat) (v0 : Int) (v1 : (List AaI)) (v2 : (List Int)) (v3 : (List (List AaD))) (v4 : Bool) (v5 : (List Int)) (hF : AaW k v0 v1 v2 v3=some (v4,v5)) :
 AbF Try.prog 81 [AV.agg [AV.int .i64 v0,Q1 v1,AV.slc 0 0 1 v2.length false,AV.lst false false (List.map (sl AaD.av) v3)]] [Gi v2] (AV.bool v4) [some (Gi v5)]:=by
 unfold AaW at hF;refine EN Try.func81 ?_;intro c0 w0 Q h0 hQ
 refine WK [(0,AV.agg [Iz v0,Q1 v1,AV.slc 0 0 1 v2.length false,AV.lst false false (List.map (sl AaD.av) v3)])] [(0,Gi v2)] 1 (by simp) (by simp) ?_;refine SW trivial [] [none,none] [0] [(1,AV.ptr 1 0)] [] [(1,Aar v0 v1 v2 v3)] 2 ?_;refine SR [] [none,none,none] fun _ _ g r=>?_;try simp
 and_intros
 try any_goals first | omega | (simp [maxLen] <;> omega)
 obtain ⟨v6,h1,hF⟩:=AaN hF;refine AbA (AeY k _ _ _ _ _ h1) (by simp) [] [0] [] rfl (.cons (.agg (.cons (.same (by simp)) (.cons (.same (by simp)) (.cons (Coe.l (o:=Gi v2) (by simp) rfl (by simp) (by simp [Ac5]) (by simp) (by simp)) (.cons (.same (by simp)) .nil))))) .nil) (by simp) (by decide) (by simp) (by simp) (.inr ⟨by simp,by simp⟩) (by simp) (by simp) ?_;refine TL trivial g r [] [(3,AV.map 2)] [] [(2,.mp (mpA (AV.int .i64) AaD.av v6))] 3 ?_;refine AW.seq fun K207 hK207=>?_;refine AW.midF (α:=Bool) (fun v7=>AaW.J1 k v0 v1 v2 v3 v6 v7=some (v4,v5)) (fun v7=>[(1,AV.ptr 1 0),(3,AV.map 2),(5,AV.bool v7)]) (fun v7=>[(0,Gi v2),(1,Aar v0 v1 v2 v3),(2,.mp (mpA (AV.int .i64) AaD.av v6))]) 3 (fun K400 hK400=>?_) ?_
 ·refine RG [] [none,none,none,none,none,none,none,none] fun _ _ g r=>?_;rcases Ab0 hF with ⟨v24,h32,hF⟩ | ⟨h33,hF⟩
  ·try simp [h32]
   and_intros <;> first | exact GK g | apply r | omega | (simp [h32,maxLen] <;> omega)
   refine hK400 _ _ _ ?_;refine Can.weak [(1,AV.ptr 1 0),(3,AV.map 2),(5,AV.bool true)] [(0,Gi v2),(1,Aar v0 v1 v2 v3),(2,.mp (mpA (AV.int .i64) AaD.av v6))] 4 (by simp [h32]) (by simp [h32]) (by simp) ?_;refine Can.ren (m:=1) h0 [(0,0),(1,1),(2,2)] [(1,AV.ptr 1 0),(3,AV.map 2),(5,AV.bool true)] [(0,Gi v2),(1,Aar v0 v1 v2 v3),(2,.mp (mpA (AV.int .i64) AaD.av v6))] 3 (by decide) (by decide) (by decide) rfl (by simp [h32]) (by simp [h32]) ?_;exact JN (true) hF (by simp [h32]) (by simp [h32])
  ·try simp [h33]
   and_intros <;> first | exact GK g | apply r | omega | (simp [h33,maxLen] <;> omega)
   refine hK400 _ _ _ ?_;refine Can.weak [(1,AV.ptr 1 0),(3,AV.map 2),(5,AV.bool false)] [(0,Gi v2),(1,Aar v0 v1 v2 v3),(2,.mp (mpA (AV.int .i64) AaD.av v6))] 4 (by simp [h33]) (by simp [h33]) (by simp) ?_;refine Can.ren (m:=1) h0 [(0,0),(1,1),(2,2)] [(1,AV.ptr 1 0),(3,AV.map 2),(5,AV.bool false)] [(0,Gi v2),(1,Aar v0 v1 v2 v3),(2,.mp (mpA (AV.int .i64) AaD.av v6))] 3 (by decide) (by decide) (by decide) rfl (by simp [h33]) (by simp [h33]) ?_;exact JN (false) hF (by simp [h33]) (by simp [h33])
 ·rintro v7 hF
  try dsimp only at hF
  unfold AaW.J1 at hF;refine SW trivial [] [none,none] [5] [(22,AV.bool (!v7))] [] [] 3 ?_;by_cases h2 : (!v7)=true
  ·replace hF:=AaZ h2 hF;have h2_:=h2;try simp at h2_
   refine CT (by simp [h2,h2_] <;> omega) ?_;refine SW (A2 h2 h2_) [] [none] [1,3,22] [(2,AV.bool false)] [1,2] [] 3 ?_;simp only [Option.some.injEq,Prod.mk.injEq] at hF;obtain ⟨e0,e1⟩:=hF;subst e0 e1;refine AW.ret (hQ _ _ _ ?_ (AaJ ?_)).1
   ·simp [Try.f81,h2,h2_]
   ·simp [h2,h2_]
  ·replace hF:=Aaa h2 hF;have h2_:=h2;try simp at h2_
   refine CF (by simp [h2,h2_] <;> omega) ?_;refine AW.skip ?_;refine hK207 _ _ _ ?_;refine SW (A2 h2 h2_) [] [none] [22] [(6,AV.lst true true (List.map AaD.av ([] : List AaD)))] [] [] 3 ?_;refine SW (A2 h2 h2_) [] [none] [] [(7,Iz 1048576)] [] [] 3 ?_;refine AW.seq fun K255 hK255=>?_;refine SW (A2 h2 h2_) [] [none] [] [(8,Iz 1)] [] [] 3 ?_;refine AW.block ?_;refine AW.own' 6 2 true (by simp [h2,h2_]) (by decide) ?_;refine AW.loopF (α:=(Int×Int×(List AaD))) (fun n (v8,v9,v10)=>AaW.L2 k v0 v1 v2 v3 v6 n v8 v9 v10=some (v4,v5)) (fun (v8,v9,v10)=>[(1,AV.ptr 1 0),(3,AV.map 2),(6,AV.slc 3 0 2 v10.length false),(7,Iz v8),(8,Iz v9)]) (fun (v8,v9,v10)=>[(0,Gi v2),(1,Aar v0 v1 v2 v3),(2,.mp (mpA (AV.int .i64) AaD.av v6)),(3,.grow (AaM (List.map AaD.av v10)))]) 4 k ((1048576,1,([] : List AaD))) hF (by simp [h2,h2_]) (by simp [h2,h2_]) (by simp) ?_;rintro (_|n2) ⟨v8,v9,v10⟩ hF K287 hK287
   ·try dsimp only at hF
    rw [AaW.L2] at hF; cases hF
   try dsimp only at hF
   rw [AaW.L2] at hF;refine AW.seq fun K289 hK289=>?_;refine SW (A2 h2 h2_) [] [none,none] [] [(24,AV.bool (v9 !=0))] [] [] 4 ?_;by_cases h3 : v9≠0
   ·replace hF:=AaZ h3 hF;have h3_:=AbY h3;have h3__:=Abc h3;have F1:=A5 h2 h2_ h3 h3_ h3__;refine CT (by simp [F1] <;> omega) ?_;refine AW.skip ?_;refine hK289 _ _ _ ?_;refine AW.block ?_;refine AW.midF (α:=(Int×Bool)) (fun (v11,v12)=>AaW.J3 k v0 v1 v2 v3 v8 v10 (fun v8_ v9_ v10_=>AaW.L2 k v0 v1 v2 v3 v6 n2 v8_ v9_ v10_) v11 v12=some (v4,v5)) (fun (v11,v12)=>[(1,AV.ptr 1 0),(3,AV.map 2),(6,AV.slc 3 0 2 v10.length false),(7,Iz v8),(9,AV.ptr 4 0)]) (fun (v11,v12)=>[(0,Gi v2),(1,Aar v0 v1 v2 v3),(2,.mp (mpA (AV.int .i64) AaD.av v6)),(3,.grow (AaM (List.map AaD.av v10))),(4,.cells [Iz v11,AV.bool v12])]) 5 (fun K297 hK297=>?_) ?_
    ·refine RG [] [none,none,none,none,none] fun _ _ g r=>?_;rcases Ab0 hF with ⟨v17,h11,hF⟩ | ⟨h12,hF⟩
     ·try simp [F1,h11]
      and_intros <;> first | exact GK g | apply r | omega | (simp [maxLen,F1,h11] <;> omega)
      refine hK297 _ _ _ ?_;exact JN ((v17.arc,v17.back)) hF (by simp [F1,h11]) (by simp [F1,h11])
     ·try simp [F1,h12]
      and_intros <;> first | exact GK g | apply r | omega | (simp [maxLen,F1,h12] <;> omega)
      refine hK297 _ _ _ ?_;exact JN ((0,false)) hF (by simp [F1,h12]) (by simp [F1,h12])
    ·rintro ⟨v11,v12⟩ hF
     try dsimp only at hF
     unfold AaW.J3 at hF;refine SR [] [none,none,none,none,none,none,none,none] fun _ _ g r=>?_;try simp [F1]
     and_intros
     try any_goals first | omega | (simp [maxLen,F1] <;> omega)
     obtain ⟨v13,v14,h4,hF⟩:=AbX hF;refine AbA (AdX k _ _ _ _ _ _ _ _ h4) (by simp) [] [0] [] rfl (.cons (.agg (.cons (.same (by simp [F1])) (.cons (.same (by simp [F1])) (.cons (Coe.l (o:=Gi v2) (by simp [F1]) rfl (by simp [F1]) (by simp [Ac5]) (by simp [F1]) (by simp [F1])) (.cons (.same (by simp [F1])) .nil))))) (.cons (.same (by simp [F1])) .nil)) (by simp [F1]) (by decide) (by simp) (by simp) (.inr ⟨by simp,by simp⟩) (by simp) (by simp) ?_;refine TL F1 g r [] [(10,Iz v13)] [] [] 5 ?_;refine SQ [] [none,none,none,none,none,none,none,none,none] fun _ _ g r=>?_;obtain ⟨h5,hF⟩:=AaR hF;have h5_:=h5;try simp at h5_
     obtain ⟨v15,h6,hF⟩:=Af8 hF;have h6_:=h6;try simp at h6_
     have F2:=A4 F1 h5 h6 h6_;try simp [F2]
     and_intros <;> first | exact GK g | apply r | omega | (simp [maxLen,F2] <;> omega)
     refine WK [(1,AV.ptr 1 0),(3,AV.map 2),(6,AV.slc 5 0 2 ((v10++([(AaD.mk v11 v12)] : List AaD)).length) false),(7,Iz v15),(9,AV.ptr 4 0)] [(0,Gi v2),(1,Aar v0 v1 v2 v3),(2,.mp (mpA (AV.int .i64) AaD.av v6)),(4,.cells [Iz v11,AV.bool v12]),(5,.grow (AaM (List.map AaD.av (v10++([(AaD.mk v11 v12)] : List AaD)))))] 6 (by simp [F2] <;> omega) (by simp [F2]) ?_;refine SQ [] [none,none,none,none,none,none,none,none,none] fun _ _ g r=>?_;obtain ⟨v16,h7,h8,h9,hF⟩:=Aad hF;have h9_:=Aas h9;try simp at h9_
     have h8_:=h8;try simp at h8_
     have F3:=A6 F2 h7 h8 h9 h9_ h8_;try simp [F3]
     and_intros <;> first | exact GK g | apply r | omega | (simp [maxLen,F3] <;> omega)
     refine WK [(1,AV.ptr 1 0),(3,AV.map 2),(6,AV.slc 5 0 2 ((v10++([(AaD.mk v11 v12)] : List AaD)).length) false),(7,Iz v15),(8,Iz v16.From),(9,AV.ptr 4 0)] [(0,Gi v2),(1,Aar v0 v1 v2 v3),(2,.mp (mpA (AV.int .i64) AaD.av v6)),(4,.cells [Iz v11,AV.bool v12]),(5,.grow (AaM (List.map AaD.av (v10++([(AaD.mk v11 v12)] : List AaD)))))] 6 (by simp [F3] <;> omega) (by simp [F3]) ?_;refine SQ [] [none,none] fun _ _ g r=>?_;try simp [F3]
     and_intros <;> first | exact GK g | apply r | omega | (simp [maxLen,F3] <;> omega)
     refine WK [(1,AV.ptr 1 0),(3,AV.map 2),(6,AV.slc 5 0 2 ((v10++([(AaD.mk v11 v12)] : List AaD)).length) false),(7,Iz v15),(8,Iz v16.From),(9,AV.ptr 4 0),(50,AV.bool v12)] [(0,Gi v2),(1,Aar v0 v1 v2 v3),(2,.mp (mpA (AV.int .i64) AaD.av v6)),(4,.cells [Iz v11,AV.bool v12]),(5,.grow (AaM (List.map AaD.av (v10++([(AaD.mk v11 v12)] : List AaD)))))] 6 (by simp [F3] <;> omega) (by simp [F3]) ?_;by_cases h10 : v12=true
     ·replace hF:=AaZ h10 hF;have h10_:=h10;try simp at h10_
      have F4:=A3 F3 h10 h10_;refine CT (by simp [F4] <;> omega) ?_;refine RG [] [none,none,none,none,none,none,none,none,none] fun _ _ g r=>?_;try simp [F4]
      and_intros <;> first | exact GK g | apply r | omega | (simp [maxLen,F4] <;> omega)
      refine hK287 _ _ _ ?_;refine Can.weak [(1,AV.ptr 1 0),(3,AV.map 2),(6,AV.slc 5 0 2 ((v10++([(AaD.mk v11 v12)] : List AaD)).length) false),(7,Iz v15),(8,Iz v16.To)] [(0,Gi v2),(1,Aar v0 v1 v2 v3),(2,.mp (mpA (AV.int .i64) AaD.av v6)),(5,.grow (AaM (List.map AaD.av (v10++([(AaD.mk v11 v12)] : List AaD)))))] 6 (by simp [F4] <;> omega) (by simp [F4]) (by simp) ?_;refine Can.ren (m:=1) h0 [(0,0),(1,1),(2,2),(3,5)] [(1,AV.ptr 1 0),(3,AV.map 2),(6,AV.slc 3 0 2 ((v10++([(AaD.mk v11 v12)] : List AaD)).length) false),(7,Iz v15),(8,Iz v16.To)] [(0,Gi v2),(1,Aar v0 v1 v2 v3),(2,.mp (mpA (AV.int .i64) AaD.av v6)),(3,.grow (AaM (List.map AaD.av (v10++([(AaD.mk v11 v12)] : List AaD)))))] 4 (by decide) (by decide) (by decide) rfl (by simp [F4]) (by simp [F4]) ?_;exact NX (k':=n2) ((v15,v16.To,v10++([(AaD.mk v11 v12)] : List AaD))) hF (by simp [F4]) (by simp [F4])
     ·replace hF:=Aaa h10 hF;have h10_:=h10;try simp at h10_
      have F5:=A3 F3 h10 h10_;refine CF (by simp [F5] <;> omega) ?_;refine AW.skip ?_;refine hK287 _ _ _ ?_;refine Can.ren (m:=1) h0 [(0,0),(1,1),(2,2),(3,5)] [(1,AV.ptr 1 0),(3,AV.map 2),(6,AV.slc 3 0 2 ((v10++([(AaD.mk v11 v12)] : List AaD)).length) false),(7,Iz v15),(8,Iz v16.From)] [(0,Gi v2),(1,Aar v0 v1 v2 v3),(2,.mp (mpA (AV.int .i64) AaD.av v6)),(3,.grow (AaM (List.map AaD.av (v10++([(AaD.mk v11 v12)] : List AaD)))))] 4 (by decide) (by decide) (by decide) rfl (by simp [F5]) (by simp [F5]) ?_;exact NX (k':=n2) ((v15,v16.From,v10++([(AaD.mk v11 v12)] : List AaD))) hF (by simp [F5]) (by simp [F5])
   ·replace hF:=Aaa h3 hF;have h3q : v9=0:=Classical.not_not.1 h3;have h3_:=Abf h3q;have h3__:=Abe h3q;have F6:=A5 h2 h2_ h3_ h3__ h3q;refine CF (by simp [F6] <;> omega) ?_;refine AW.exit ?_;try simp
    refine hK255 _ _ _ ?_;refine WK [(1,AV.ptr 1 0),(6,AV.slc 3 0 2 v10.length false),(7,Iz v8)] [(0,Gi v2),(1,Aar v0 v1 v2 v3),(3,.grow (AaM (List.map AaD.av v10)))] 4 (by simp [F6]) (by simp [F6]) ?_;refine AW.frz 3 (o := .grow (AaM (List.map AaD.av v10))) (by simp [F6]) rfl [(6,Q2 v10)] [] ⟨(.l (by simp) (by simp) (by simp) (by simp)),trivial⟩ trivial ?_;refine WK [(1,AV.ptr 1 0),(6,Q2 v10),(7,Iz v8)] [(0,Gi v2),(1,Aar v0 v1 v2 v3)] 4 (by simp [F6]) (by simp [F6]) ?_;refine AW.seq fun K348 hK348=>?_;refine SW F6 [] [none,none,none] [6] [(59,Q2 v10),(60,Iz (v10.length : Int)),(61,Iz 0)] [] [] 4 ?_;refine AW.block ?_;refine AW.rnm (m:=1) h0 [(0,0),(1,1)] [(1,AV.ptr 1 0),(7,Iz v8),(59,Q2 v10),(60,Iz (v10.length : Int)),(61,Iz 0)] [(0,Gi v2),(1,Aar v0 v1 v2 v3)] 2 (by decide) (by decide) (by decide) rfl (by simp [F6]) (by simp [F6]) ?_;refine AW.loopF (α:=(Int×(List Int))) (fun n (v18,v19)=>AaW.L4 k v8 v10 n v18 v19=some (v4,v5)) (fun (v18,v19)=>[(1,AV.ptr 1 0),(7,Iz v8),(59,Q2 v10),(60,Iz (v10.length : Int)),(61,Iz v18)]) (fun (v18,v19)=>[(0,Gi v19),(1,.cells [Iz v0,Q1 v1,AV.slc 0 0 1 v19.length false,AV.lst false false (List.map (sl AaD.av) v3)])]) 2 k ((0,v2)) hF (by simp [F6]) (by simp [F6]) (by simp) ?_;rintro (_|n4) ⟨v18,v19⟩ hF K386 hK386
    ·try dsimp only at hF
     rw [AaW.L4] at hF; cases hF
    try dsimp only at hF
    rw [AaW.L4] at hF;refine SW F6 [] [none] [] [(62,AV.bool (decide (v18<(v10.length : Int))))] [] [] 2 ?_;refine AW.seq fun K388 hK388=>?_;by_cases h13 : v18<(v10.length : Int)
    ·replace hF:=AaZ h13 hF;have h13_:=h13;try simp at h13_
     have F7:=A3 F6 h13 h13_;refine CT (by simp [F7] <;> omega) ?_;refine AW.skip ?_;refine hK388 _ _ _ ?_;refine AW.midF (α:=(List Int)) (fun v20=>AaW.J5 k v18 (fun v18_ v19_=>AaW.L4 k v8 v10 n4 v18_ v19_) v20=some (v4,v5)) (fun v20=>[(1,AV.ptr 1 0),(7,Iz v8),(59,Q2 v10),(60,Iz (v10.length : Int)),(61,Iz v18)]) (fun v20=>[(0,Gi v20),(1,.cells [Iz v0,Q1 v1,AV.slc 0 0 1 v20.length false,AV.lst false false (List.map (sl AaD.av) v3)])]) 2 (fun K394 hK394=>?_) ?_
     ·refine AW.block ?_;refine SR [] [none,none,none,none] fun _ _ g r=>?_;obtain ⟨v21,h14,h15,h16,hF⟩:=Aad hF;have h16_:=Aas h16;try simp at h16_
      have h15_:=h15;try simp at h15_
      have F8:=A6 F7 h14 h15 h16 h16_ h15_;refine TL F8 g r [] [(13,AV.ptr 2 0)] [] [(2,.cells [Iz v21.arc,AV.bool v21.back])] 3 ?_;refine SW F8 [] [none,none] [] [(66,AV.bool v21.back)] [] [] 3 ?_;by_cases h17 : v21.back=true
      ·replace hF:=AaZ h17 hF;have h17_:=h17;try simp at h17_
       have F9:=A3 F8 h17 h17_;refine CT (by simp [F9] <;> omega) ?_;refine RG [] [none,none,none,none,none,none,none,none,none,none] fun _ _ g r=>?_;obtain ⟨⟨h18,h19⟩,hF⟩:=AaR hF;have h19_:=Aa3 h19;obtain ⟨v22,h20,h21,h22,hF⟩:=Aad hF;have h22_:=Aas h22;try simp at h22_
       have h21_:=h21;try simp at h21_
       obtain ⟨⟨h23,h24⟩,hF⟩:=AaR hF;have h24_:=Aa3 h24;have F10:=A9 F9 h18 h19 h19_ h20 h21 h22 h22_ (A4 h21_ h23 h24 h24_);try simp [F10]
       and_intros <;> first | exact GK g | apply r | omega | (simp [maxLen,F10] <;> omega)
       refine hK394 _ _ _ ?_;refine Can.weak [(1,AV.ptr 1 0),(7,Iz v8),(59,Q2 v10),(60,Iz (v10.length : Int)),(61,Iz v18)] [(0,Gi (v19.set (v21.arc).toNat (IntKind.wrap .i64 (v22-v8)))),(1,.cells [Iz v0,Q1 v1,AV.slc 0 0 1 ((v19.set (v21.arc).toNat (IntKind.wrap .i64 (v22-v8))).length) false,AV.lst false false (List.map (sl AaD.av) v3)])] 3 (by simp [F10]) (by simp [F10]) (by simp) ?_;refine Can.ren (m:=1) h0 [(0,0),(1,1)] [(1,AV.ptr 1 0),(7,Iz v8),(59,Q2 v10),(60,Iz (v10.length : Int)),(61,Iz v18)] [(0,Gi (v19.set (v21.arc).toNat (IntKind.wrap .i64 (v22-v8)))),(1,.cells [Iz v0,Q1 v1,AV.slc 0 0 1 ((v19.set (v21.arc).toNat (IntKind.wrap .i64 (v22-v8))).length) false,AV.lst false false (List.map (sl AaD.av) v3)])] 2 (by decide) (by decide) (by decide) rfl (by simp [F10]) (by simp [F10]) ?_;exact JN (v19.set (v21.arc).toNat (IntKind.wrap .i64 (v22-v8))) hF (by simp [F10]) (by simp [F10])
      ·replace hF:=Aaa h17 hF;have h17_:=h17;try simp at h17_
       have F11:=A3 F8 h17 h17_;refine CF (by simp [F11] <;> omega) ?_;refine RG [] [none,none,none,none,none,none,none,none,none,none] fun _ _ g r=>?_;obtain ⟨⟨h25,h26⟩,hF⟩:=AaR hF;have h26_:=Aa3 h26;obtain ⟨v23,h27,h28,h29,hF⟩:=Aad hF;have h29_:=Aas h29;try simp at h29_
       have h28_:=h28;try simp at h28_
       obtain ⟨⟨h30,h31⟩,hF⟩:=AaR hF;have h31_:=Aa3 h31;have F12:=A9 F11 h25 h26 h26_ h27 h28 h29 h29_ (A4 h28_ h30 h31 h31_);try simp [F12]
       and_intros <;> first | exact GK g | apply r | omega | (simp [maxLen,F12] <;> omega)
       refine hK394 _ _ _ ?_;refine Can.weak [(1,AV.ptr 1 0),(7,Iz v8),(59,Q2 v10),(60,Iz (v10.length : Int)),(61,Iz v18)] [(0,Gi (v19.set (v21.arc).toNat (IntKind.wrap .i64 (v23+v8)))),(1,.cells [Iz v0,Q1 v1,AV.slc 0 0 1 ((v19.set (v21.arc).toNat (IntKind.wrap .i64 (v23+v8))).length) false,AV.lst false false (List.map (sl AaD.av) v3)])] 3 (by simp [F12]) (by simp [F12]) (by simp) ?_;refine Can.ren (m:=1) h0 [(0,0),(1,1)] [(1,AV.ptr 1 0),(7,Iz v8),(59,Q2 v10),(60,Iz (v10.length : Int)),(61,Iz v18)] [(0,Gi (v19.set (v21.arc).toNat (IntKind.wrap .i64 (v23+v8)))),(1,.cells [Iz v0,Q1 v1,AV.slc 0 0 1 ((v19.set (v21.arc).toNat (IntKind.wrap .i64 (v23+v8))).length) false,AV.lst false false (List.map (sl AaD.av) v3)])] 2 (by decide) (by decide) (by decide) rfl (by simp [F12]) (by simp [F12]) ?_;exact JN (v19.set (v21.arc).toNat (IntKind.wrap .i64 (v23+v8))) hF (by simp [F12]) (by simp [F12])
     ·rintro v20 hF
      try dsimp only at hF
      unfold AaW.J5 at hF;refine RG [] [none,none] fun _ _ g r=>?_;try simp [F7]
      and_intros <;> first | exact GK g | apply r | omega | (simp [maxLen,F7] <;> omega)
      refine hK386 _ _ _ ?_;exact NX (k':=n4) ((IntKind.wrap .i64 (v18+1),v20)) hF (by simp [F7]) (by simp [F7])
    ·replace hF:=Aaa h13 hF;have h13_:=h13;try simp at h13_
     have F13:=A3 F6 h13 h13_;refine CF (by simp [F13] <;> omega) ?_;refine AW.exit ?_;try simp
     refine hK348 _ _ _ ?_;refine SW F13 [] [none] [1,7,59,60,61] [(2,AV.bool true)] [1] [] 2 ?_;simp only [Option.some.injEq,Prod.mk.injEq] at hF;obtain ⟨e0,e1⟩:=hF;subst e0 e1;refine AW.ret (hQ _ _ _ ?_ (AaJ ?_)).1
     ·simp [Try.f81,F13]
     ·simp [F13]
theorem Ajr (k : Nat) (v0 : Int) (v1 : (List AaI)) (v2 : (List Int)) (v3 : (List Int)) (hF : AdA k v0 v1 v2=some v3) :
 AbF Try.prog 47 [AV.agg [AV.int .i64 v0,Q1 v1],AV.lst false false (List.map (AV.int .i64) v2)] [] (AV.slc 0 0 1 v3.length false) [some (Gi v3)]:=by
 unfold AdA at hF;refine EN Try.func47 ?_;intro c0 w0 Q h0 hQ
 refine WK [(0,AV.agg [Iz v0,Q1 v1]),(1,Lz v2)] [] 0 (by simp) (by simp) ?_;refine SW trivial [] [none,none] [0] [(2,AV.ptr 0 0)] [] [(0,.cells [Iz v0,Q1 v1])] 1 ?_;refine SR [] [none,none,none,none,none,none] fun _ _ g r=>?_;try simp
 and_intros
 try any_goals first | omega | (simp [maxLen] <;> omega)
 obtain ⟨v4,h1,hF⟩:=AaN hF;refine AC (AcR k _ _ h1) (.cons (.same (by simp)) .nil) ?_;try simp
 and_intros
 try any_goals first | omega | (simp [maxLen] <;> omega)
 obtain ⟨v5,h2,hF⟩:=AaN hF;refine AbA (Ajq k _ _ _ _ h2) (by simp) [1] [] [] rfl (.cons (.same (by simp)) (.cons (.same (by simp)) .nil)) (by simp) (by decide) (by simp) (by simp) (.inl rfl) (by simp) (by simp) ?_;refine TL trivial g r [1,2] [(5,AV.ptr 2 0)] [0] [(1,Gi v4),(2,.cells [Iz v0,Q1 v1,AV.slc 1 0 1 v4.length false,AV.lst false false (List.map (sl AaD.av) v5)])] 3 ?_;refine AW.seq fun K46 hK46=>?_;refine AW.block ?_;refine RM h0 [(0,2),(1,1)] [(5,AV.ptr 0 0)] [(0,.cells [Iz v0,Q1 v1,AV.slc 1 0 1 v4.length false,AV.lst false false (List.map (sl AaD.av) v5)]),(1,Gi v4)] 2 (by simp) (by simp) ?_;refine AW.loopF (α:=(List Int)) (fun n v6=>AdA.L1 k v0 v1 v5 n v6=some v3) (fun v6=>[(5,AV.ptr 0 0)]) (fun v6=>[(0,.cells [Iz v0,Q1 v1,AV.slc 1 0 1 v6.length false,AV.lst false false (List.map (sl AaD.av) v5)]),(1,Gi v6)]) 2 k (v4) hF (by simp) (by simp) (by simp) ?_;rintro (_|n1) v6 hF K56 hK56
 ·try dsimp only at hF
  rw [AdA.L1] at hF; cases hF
 try dsimp only at hF
 rw [AdA.L1] at hF;refine AW.seq fun K58 hK58=>?_;refine SR [] [none,none] fun _ _ g r=>?_;try simp
 and_intros
 try any_goals first | omega | (simp [maxLen] <;> omega)
 obtain ⟨v7,v8,h3,hF⟩:=AbX hF;obtain ⟨h4,hF⟩:=AaR hF;refine AbA (AfK k _ _ _ _ _ _ h3) (by simp) [1] [] [1] rfl (.cons (.same (by simp)) .nil) (by simp) (by decide) (by simp) (by simp) (.inl rfl) (by simp) (by simp) ?_;refine TL h4 g r [] [(11,AV.bool v7)] [0,1] [(0,.cells [Iz v0,Q1 v1,AV.slc 1 0 1 v8.length false,AV.lst false false (List.map (sl AaD.av) v5)]),(1,Gi v8)] 2 ?_;by_cases h5 : v7=true
 ·replace hF:=AaZ h5 hF;have h5_:=h5;try simp at h5_
  have F1:=A3 h4 h5 h5_;refine CT (by simp [F1] <;> omega) ?_;refine AW.skip ?_;refine hK58 _ _ _ ?_;refine AW.block ?_;refine AW.skip ?_;refine hK56 _ _ _ ?_;exact NX (k':=n1) (v8) hF (by simp [F1]) (by simp [F1])
 ·replace hF:=Aaa h5 hF;have h5_:=h5;try simp at h5_
  have F2:=A3 h4 h5 h5_;refine CF (by simp [F2] <;> omega) ?_;refine AW.exit ?_;try simp
  refine hK46 _ _ _ ?_;refine SQ [] [none,none,none] fun _ _ g r=>?_;try simp [F2]
  and_intros <;> first | exact GK g | apply r | omega | (simp [maxLen,F2] <;> omega)
  refine RM h0 [(0,1)] [(4,AV.slc 0 0 1 v8.length false)] [(0,Gi v8)] 1 (by simp [F2]) (by simp [F2]) ?_;simp only [Option.some.injEq] at hF;subst hF;refine AW.ret (hQ _ _ _ ?_ (AaJ ?_)).1
  ·simp [Try.f47,F2]
  ·simp [F2]
theorem Ahk (k : Nat) (v0 : Int) (v1 : (List AaI)) (v2 : (List Int)) (v3 : Int) (hF : Agr k v0 v1=some (v2,v3)) :
 AbF Try.prog 16 [AV.agg [AV.int .i64 v0,Q1 v1]] [] (AV.tup [AV.slc 0 0 1 v2.length false,AV.int .i64 v3]) [some (Gi v2)]:=by
 unfold Agr at hF;refine EN Try.func16 ?_;intro c0 w0 Q h0 hQ
 refine WK [(0,AV.agg [Iz v0,Q1 v1])] [] 0 (by simp [-List.reduceReplicate,AaE,AaF,AaC]) (by simp [-List.reduceReplicate,AaE,AaF,AaC]) ?_;refine SQ [] [none,none,none] fun _ _ g r=>?_;try simp [-List.reduceReplicate,AaE,AaF,AaC]
 and_intros <;> first | exact GK g | apply r | omega | (simp [-List.reduceReplicate,AaE,AaF,AaC,maxLen] <;> omega)
 refine WK [(1,AV.ptr 0 0)] [(0,.cells [Iz v0,Q1 v1])] 1 (by simp [-List.reduceReplicate,AaE,AaF,AaC]) (by simp [-List.reduceReplicate,AaE,AaF,AaC]) ?_;refine AW.seq fun K14 hK14=>?_;refine SQ [] [none,none,none] fun _ _ g r=>?_;try simp [-List.reduceReplicate,AaE,AaF,AaC]
 and_intros
 try any_goals first | omega | (simp [-List.reduceReplicate,AaE,AaF,AaC,maxLen] <;> omega)
 obtain ⟨v4,h1,hF⟩:=AaN hF;refine AC (Aej k _ _ _ h1) (.cons (.same (by simp)) .nil) ?_;try simp [-List.reduceReplicate,AaE,AaF,AaC]
 and_intros <;> first | exact GK g | apply r | omega | (simp [-List.reduceReplicate,AaE,AaF,AaC,maxLen] <;> omega)
 refine WK [(1,AV.ptr 0 0),(4,Iz v4)] [(0,.cells [Iz v0,Q1 v1])] 1 (by simp [-List.reduceReplicate,AaE,AaF,AaC]) (by simp [-List.reduceReplicate,AaE,AaF,AaC]) ?_;refine SQ [] [none,none] fun _ _ g r=>?_;try simp [-List.reduceReplicate,AaE,AaF,AaC]
 and_intros <;> first | exact GK g | apply r | omega | (simp [-List.reduceReplicate,AaE,AaF,AaC,maxLen] <;> omega)
 refine WK [(1,AV.ptr 0 0),(4,Iz v4),(8,AV.bool (v4 !=0))] [(0,.cells [Iz v0,Q1 v1])] 1 (by simp [-List.reduceReplicate,AaE,AaF,AaC]) (by simp [-List.reduceReplicate,AaE,AaF,AaC]) ?_;by_cases h2 : v4≠0
 ·replace hF:=AaZ h2 hF;have h2_:=AbY h2;have h2__:=Abc h2;have F1:=A3 h2 h2_ h2__;refine CT (by simp [-List.reduceReplicate,AaE,AaF,AaC,F1] <;> omega) ?_;refine SQ [] [none,none,none] fun _ _ g r=>?_;try simp [-List.reduceReplicate,AaE,AaF,AaC,F1]
  and_intros <;> first | exact GK g | apply r | omega | (simp [-List.reduceReplicate,AaE,AaF,AaC,maxLen,F1] <;> omega)
  refine WK [(2,AV.lst true true (List.map (AV.int .i64) ([] : List Int))),(3,Iz v4)] [] 1 (by simp [-List.reduceReplicate,AaE,AaF,AaC,F1]) (by simp [-List.reduceReplicate,AaE,AaF,AaC,F1]) ?_;refine AW.own' 2 1 true (by simp [-List.reduceReplicate,AaE,AaF,AaC,F1]) (by decide) ?_;refine RM h0 [(0,1)] [(2,AV.slc 0 0 1 (([] : List Int).length) false),(3,Iz v4)] [(0,Gi ([] : List Int))] 1 (by simp [-List.reduceReplicate,AaE,AaF,AaC,F1]) (by simp [-List.reduceReplicate,AaE,AaF,AaC,F1]) ?_;simp only [Option.some.injEq,Prod.mk.injEq] at hF;obtain ⟨e0,e1⟩:=hF;subst e0 e1;refine AW.ret (hQ _ _ _ ?_ (AaJ ?_)).1
  ·simp [Try.f16,F1]
  ·simp [F1]
 ·replace hF:=Aaa h2 hF;have h2q : v4=0:=Classical.not_not.1 h2;have h2_:=Abf h2q;have h2__:=Abe h2q;refine CF (by simp [-List.reduceReplicate,AaE,AaF,AaC,h2_,h2__,h2q] <;> omega) ?_;refine AW.skip ?_;refine hK14 _ _ _ ?_;refine SQ [] [none,none,none,none,none,none,none,none] fun _ _ g r=>?_;obtain ⟨h3,hF⟩:=AaR hF;have F2:=A4 h2_ h2__ h2q h3;try simp [-List.reduceReplicate,AaE,AaF,AaC,F2]
  and_intros
  try any_goals first | omega | (simp [-List.reduceReplicate,AaE,AaF,AaC,maxLen,F2] <;> omega)
  obtain ⟨v5,h4,hF⟩:=AaN hF;refine AC (Ajr k _ _ _ _ h4) (.cons (.same (by simp [-List.reduceReplicate,AaE,AaF,AaC,F2])) (.cons (Coe.fl (by simp [-List.reduceReplicate,AaE,AaF,AaC,F2])) .nil)) ?_;try simp [-List.reduceReplicate,AaE,AaF,AaC,F2]
  and_intros <;> first | exact GK g | apply r | omega | (simp [-List.reduceReplicate,AaE,AaF,AaC,maxLen,F2] <;> omega)
  refine RM h0 [(0,1)] [(2,AV.slc 0 0 1 v5.length false),(3,Iz 0)] [(0,Gi v5)] 1 (by simp [-List.reduceReplicate,AaE,AaF,AaC,F2]) (by simp [-List.reduceReplicate,AaE,AaF,AaC,F2]) ?_;simp only [Option.some.injEq,Prod.mk.injEq] at hF;obtain ⟨e0,e1⟩:=hF;subst e0 e1;refine AW.ret (hQ _ _ _ ?_ (AaJ ?_)).1
  ·simp [Try.f16,F2]
  ·simp [F2]
theorem AfP (k : Nat) (v0 : Int) (v1 : (List AaI)) (v2 : (List Int)) (v3 : (List Int)) (hF : Abw k v0 v1 v2=some v3) :
 AbF Try.prog 70 [AV.agg [AV.int .i64 v0,Q1 v1],AV.lst false false (List.map (AV.int .i64) v2)] [] (AV.slc 0 0 1 v3.length false) [some (Ci v3)]:=by
 unfold Abw at hF;refine EN Try.func70 ?_;intro c0 w0 Q h0 hQ
 refine WK [(0,AV.agg [Iz v0,Q1 v1]),(1,Lz v2)] [] 0 (by simp [-List.reduceReplicate,AaE,AaF,AaC]) (by simp [-List.reduceReplicate,AaE,AaF,AaC]) ?_;refine SQ [] [none,none] fun _ _ g r=>?_;try simp [-List.reduceReplicate,AaE,AaF,AaC]
 and_intros <;> first | exact GK g | apply r | omega | (simp [-List.reduceReplicate,AaE,AaF,AaC,maxLen] <;> omega)
 refine WK [(1,Lz v2),(2,AV.ptr 0 0)] [(0,.cells [Iz v0,Q1 v1])] 1 (by simp [-List.reduceReplicate,AaE,AaF,AaC]) (by simp [-List.reduceReplicate,AaE,AaF,AaC]) ?_;refine SQ [10] [none,none,none,none] fun _ _ g r=>?_;obtain ⟨h1,hF⟩:=AaR hF;try simp [-List.reduceReplicate,AaE,AaF,AaC,h1]
 and_intros <;> first | exact GK g | apply r | omega | (simp [-List.reduceReplicate,AaE,AaF,AaC,h1,maxLen] <;> omega)
 refine WK [(1,Lz v2),(2,AV.ptr 0 0),(5,AV.slc 1 0 1 ((List.replicate (v0).toNat (0 : Int)).length) true)] [(0,.cells [Iz v0,Q1 v1]),(1,Ci (List.replicate (v0).toNat (0 : Int)))] 2 (by simp [-List.reduceReplicate,AaE,AaF,AaC,h1]) (by simp [-List.reduceReplicate,AaE,AaF,AaC,h1]) ?_;refine AW.seq fun K133 hK133=>?_;refine SQ [] [none,none,none,none] fun _ _ g r=>?_;try simp [-List.reduceReplicate,AaE,AaF,AaC,h1]
 and_intros <;> first | exact GK g | apply r | omega | (simp [-List.reduceReplicate,AaE,AaF,AaC,h1,maxLen] <;> omega)
 refine WK [(1,Lz v2),(5,AV.slc 1 0 1 ((List.replicate (v0).toNat (0 : Int)).length) true),(12,Q1 v1),(13,Iz (v1.length : Int)),(14,Iz 0)] [(1,Ci (List.replicate (v0).toNat (0 : Int)))] 2 (by simp [-List.reduceReplicate,AaE,AaF,AaC,h1]) (by simp [-List.reduceReplicate,AaE,AaF,AaC,h1]) ?_;refine AW.block ?_;refine RM h0 [(0,1)] [(1,Lz v2),(5,AV.slc 0 0 1 ((List.replicate (v0).toNat (0 : Int)).length) true),(12,Q1 v1),(13,Iz (v1.length : Int)),(14,Iz 0)] [(0,Ci (List.replicate (v0).toNat (0 : Int)))] 1 (by simp [-List.reduceReplicate,AaE,AaF,AaC,h1]) (by simp [-List.reduceReplicate,AaE,AaF,AaC,h1]) ?_;refine AW.loopF (α:=(Int×(List Int))) (fun n (v4,v5)=>Abw.L1 k v1 v2 n v4 v5=some v3) (fun (v4,v5)=>[(1,Lz v2),(5,AV.slc 0 0 1 v5.length true),(12,Q1 v1),(13,Iz (v1.length : Int)),(14,Iz v4)]) (fun (v4,v5)=>[(0,Ci v5)]) 1 k ((0,(List.replicate (v0).toNat (0 : Int)))) hF (by simp [-List.reduceReplicate,AaE,AaF,AaC,h1]) (by simp [-List.reduceReplicate,AaE,AaF,AaC,h1]) (by simp) ?_;rintro (_|n1) ⟨v4,v5⟩ hF K165 hK165
 ·try dsimp only at hF
  rw [Abw.L1] at hF; cases hF
 try dsimp only at hF
 rw [Abw.L1] at hF;refine SQ [] [none] fun _ _ g r=>?_;try simp [-List.reduceReplicate,AaE,AaF,AaC,h1]
 and_intros <;> first | exact GK g | apply r | omega | (simp [-List.reduceReplicate,AaE,AaF,AaC,h1,maxLen] <;> omega)
 refine WK [(1,Lz v2),(5,AV.slc 0 0 1 v5.length true),(12,Q1 v1),(13,Iz (v1.length : Int)),(14,Iz v4),(15,AV.bool (decide (v4<(v1.length : Int))))] [(0,Ci v5)] 1 (by simp [-List.reduceReplicate,AaE,AaF,AaC,h1]) (by simp [-List.reduceReplicate,AaE,AaF,AaC,h1]) ?_;refine AW.seq fun K167 hK167=>?_;by_cases h2 : v4<(v1.length : Int)
 ·replace hF:=AaZ h2 hF;have h2_:=h2;try simp [-List.reduceReplicate] at h2_
  have F1:=A3 h1 h2 h2_;refine CT (by simp [-List.reduceReplicate,AaE,AaF,AaC,F1] <;> omega) ?_;refine AW.skip ?_;refine hK167 _ _ _ ?_;refine AW.seq fun K171 hK171=>?_;refine AW.block ?_;refine SQ [] [none,none,none,none,none,none] fun _ _ g r=>?_;obtain ⟨v6,h3,h4,h5,hF⟩:=Aad hF;have h5_:=Aas h5;try simp [-List.reduceReplicate] at h5_
  have h4_:=h4;try simp [-List.reduceReplicate] at h4_
  have F2:=A6 F1 h3 h4 h5 h5_ h4_;try simp [-List.reduceReplicate,AaE,AaF,AaC,F2]
  and_intros <;> first | exact GK g | apply r | omega | (simp [-List.reduceReplicate,AaE,AaF,AaC,maxLen,F2] <;> omega)
  refine WK [(1,Lz v2),(5,AV.slc 0 0 1 v5.length true),(6,Iz v4),(7,AV.ptr 1 0),(12,Q1 v1),(13,Iz (v1.length : Int)),(14,Iz v4)] [(0,Ci v5),(1,.cells [Iz v6.From,Iz v6.To,Iz v6.Cap])] 2 (by simp [-List.reduceReplicate,AaE,AaF,AaC,F2]) (by simp [-List.reduceReplicate,AaE,AaF,AaC,F2]) ?_;refine SQ [] [none,none,none,none,none,none,none,none,none,none,none,none] fun _ _ g r=>?_;obtain ⟨⟨h6,h7⟩,hF⟩:=AaR hF;have h7_:=Aa3 h7;obtain ⟨v7,h8,h9,h10,hF⟩:=Aad hF;have h10_:=Aas h10;try simp [-List.reduceReplicate] at h10_
  have h9_:=h9;try simp [-List.reduceReplicate] at h9_
  obtain ⟨v8,h11,h12,h13,hF⟩:=Aad hF;have h13_:=Aas h13;try simp [-List.reduceReplicate] at h13_
  have h12_:=h12;try simp [-List.reduceReplicate] at h12_
  obtain ⟨⟨h14,h15⟩,hF⟩:=AaR hF;have h15_:=Aa3 h15;have F3:=A9 F2 h6 h7 h7_ h8 h9 h10 h10_ (A9 h9_ h11 h12 h13 h13_ h12_ h14 h15 h15_);try simp [-List.reduceReplicate,AaE,AaF,AaC,F3]
  and_intros <;> first | exact GK g | apply r | omega | (simp [-List.reduceReplicate,AaE,AaF,AaC,maxLen,F3] <;> omega)
  refine WK [(1,Lz v2),(5,AV.slc 0 0 1 ((v5.set (v6.From).toNat (IntKind.wrap .i64 (v7+v8))).length) true),(6,Iz v4),(7,AV.ptr 1 0),(12,Q1 v1),(13,Iz (v1.length : Int)),(14,Iz v4)] [(0,Ci (v5.set (v6.From).toNat (IntKind.wrap .i64 (v7+v8)))),(1,.cells [Iz v6.From,Iz v6.To,Iz v6.Cap])] 2 (by simp [-List.reduceReplicate,AaE,AaF,AaC,F3]) (by simp [-List.reduceReplicate,AaE,AaF,AaC,F3]) ?_;refine RG [] [none,none,none,none,none,none,none,none,none,none,none,none] fun _ _ g r=>?_;obtain ⟨⟨h16,h17⟩,hF⟩:=AaR hF;have h17_:=Aa3 h17;obtain ⟨v9,h18,h19,h20,hF⟩:=Aad hF;have h20_:=Aas h20;try simp [-List.reduceReplicate] at h20_
  have h19_:=h19;try simp [-List.reduceReplicate] at h19_
  have h20__:=Aas (Aic ((AV.int .i64)) h20);try simp at h20__
  obtain ⟨⟨h21,h22⟩,hF⟩:=AaR hF;have h22_:=Aa3 h22;have F4:=A9 F3 h16 h17 h17_ h18 h19 h20 h20_ (A5 h19_ h20__ h21 h22 h22_);try simp [-List.reduceReplicate,AaE,AaF,AaC,F4]
  and_intros <;> first | exact GK g | apply r | omega | (simp [-List.reduceReplicate,AaE,AaF,AaC,maxLen,F4] <;> omega)
  refine hK171 _ _ _ ?_;refine WK [(1,Lz v2),(5,AV.slc 0 0 1 (((v5.set (v6.From).toNat (IntKind.wrap .i64 (v7+v8))).set (v6.To).toNat (IntKind.wrap .i64 (v9-v8))).length) true),(12,Q1 v1),(13,Iz (v1.length : Int)),(14,Iz v4)] [(0,Ci ((v5.set (v6.From).toNat (IntKind.wrap .i64 (v7+v8))).set (v6.To).toNat (IntKind.wrap .i64 (v9-v8))))] 2 (by simp [-List.reduceReplicate,AaE,AaF,AaC,F4]) (by simp [-List.reduceReplicate,AaE,AaF,AaC,F4]) ?_;refine RG [] [none,none] fun _ _ g r=>?_;try simp [-List.reduceReplicate,AaE,AaF,AaC,F4]
  and_intros <;> first | exact GK g | apply r | omega | (simp [-List.reduceReplicate,AaE,AaF,AaC,maxLen,F4] <;> omega)
  refine hK165 _ _ _ ?_;refine RN h0 [(0,0)] [(1,Lz v2),(5,AV.slc 0 0 1 (((v5.set (v6.From).toNat (IntKind.wrap .i64 (v7+v8))).set (v6.To).toNat (IntKind.wrap .i64 (v9-v8))).length) true),(12,Q1 v1),(13,Iz (v1.length : Int)),(14,Iz (IntKind.wrap .i64 (v4+1)))] [(0,Ci ((v5.set (v6.From).toNat (IntKind.wrap .i64 (v7+v8))).set (v6.To).toNat (IntKind.wrap .i64 (v9-v8))))] 1 (by simp [-List.reduceReplicate,AaE,AaF,AaC,F4]) (by simp [-List.reduceReplicate,AaE,AaF,AaC,F4]) ?_;exact NX (k':=n1) ((IntKind.wrap .i64 (v4+1),(v5.set (v6.From).toNat (IntKind.wrap .i64 (v7+v8))).set (v6.To).toNat (IntKind.wrap .i64 (v9-v8)))) hF (by simp [-List.reduceReplicate,AaE,AaF,AaC,F4]) (by simp [-List.reduceReplicate,AaE,AaF,AaC,F4])
 ·replace hF:=Aaa h2 hF;have h2_:=h2;try simp [-List.reduceReplicate] at h2_
  have F5:=A3 h1 h2 h2_;refine CF (by simp [-List.reduceReplicate,AaE,AaF,AaC,F5] <;> omega) ?_;refine AW.exit ?_;try simp [-List.reduceReplicate]
  refine hK133 _ _ _ ?_;refine SQ [] [none,none] fun _ _ g r=>?_;try simp [-List.reduceReplicate,AaE,AaF,AaC,F5]
  and_intros <;> first | exact GK g | apply r | omega | (simp [-List.reduceReplicate,AaE,AaF,AaC,maxLen,F5] <;> omega)
  refine WK [(4,AV.slc 0 0 1 v5.length true)] [(0,Ci v5)] 1 (by simp [-List.reduceReplicate,AaE,AaF,AaC,F5]) (by simp [-List.reduceReplicate,AaE,AaF,AaC,F5]) ?_;refine AW.flg [(4,AV.slc 0 0 1 v5.length false)] [] ⟨.slc,trivial⟩ trivial (by simp) ?_;simp only [Option.some.injEq] at hF;subst hF;refine AW.ret (hQ _ _ _ ?_ (AaJ ?_)).1
  ·simp [Try.f70,F5]
  ·simp [F5]
theorem AhW (k : Nat) (v0 : Int) (v1 : Bool) (hF : Aex k v0=some v1) :
 AbF Try.prog 71 [AV.int .i64 v0] [] (AV.bool v1) []:=by
 unfold Aex at hF;refine EN Try.func71 ?_;intro c0 w0 Q h0 hQ
 refine WK [(0,Iz v0)] [] 0 (by simp) (by simp) ?_;refine SW trivial [] [none] [] [] [] [] 0 ?_;refine SW trivial [] [none,none,none] [0] [(2,AV.bool (v0 !=0))] [] [] 0 ?_;simp only [Option.some.injEq] at hF;subst hF;refine AW.ret (hQ _ _ _ ?_ (AaJ ?_)).1
 ·simp [Try.f71]
 ·simp
theorem Acy (k : Nat) (v0 : (List Int)) (v1 : Int) (hF : Aat k v0=some v1) :
 AbF Try.prog 88 [AV.lst false false (List.map (AV.int .i64) v0),AV.fn 71 []] [] (AV.int .i64 v1) []:=by
 unfold Aat at hF;refine EN Try.func88 ?_;intro c0 w0 Q h0 hQ
 refine WK [(0,Lz v0),(1,AV.fn 71 [])] [] 0 (by simp) (by simp) ?_;refine SW trivial [] [none] [] [] [] [] 0 ?_;refine AW.seq fun K131 hK131=>?_;refine SW trivial [] [none,none,none] [] [(7,Iz (v0.length : Int)),(8,Iz 0)] [] [] 0 ?_;refine AW.block ?_;refine AW.loopF (α:=Int) (fun n v2=>Aat.L1 k v0 n v2=some v1) (fun v2=>[(0,Lz v0),(1,AV.fn 71 []),(7,Iz (v0.length : Int)),(8,Iz v2)]) (fun v2=>[]) 0 k (0) hF (by simp) (by simp) (by simp) ?_;rintro (_|n1) v2 hF K163 hK163
 ·try dsimp only at hF
  rw [Aat.L1] at hF; cases hF
 try dsimp only at hF
 rw [Aat.L1] at hF;refine SW trivial [] [none] [] [(9,AV.bool (decide (v2<(v0.length : Int))))] [] [] 0 ?_;refine AW.seq fun K165 hK165=>?_;by_cases h1 : v2<(v0.length : Int)
 ·replace hF:=AaZ h1 hF;have h1_:=h1;try simp at h1_
  refine CT (by simp [h1,h1_] <;> omega) ?_;refine AW.skip ?_;refine hK165 _ _ _ ?_;refine AW.seq fun K169 hK169=>?_;refine AW.block ?_;refine SW (A2 h1 h1_) [] [none,none] [] [(5,Iz v2)] [] [] 0 ?_;refine SR [] [none,none,none,none,none,none] fun _ _ g r=>?_;obtain ⟨v3,h2,h3,h4,hF⟩:=Aad hF;have h4_:=Aas h4;try simp at h4_
  have h3_:=h3;try simp at h3_
  have F1:=A7 h1 h1_ h2 h3 h4 h4_ h3_;try simp [F1]
  and_intros
  try any_goals first | omega | (simp [maxLen,F1] <;> omega)
  obtain ⟨v4,h5,hF⟩:=AaN hF;refine AC (AhW k _ _ h5) (.cons (.same (by simp [F1])) .nil) ?_;refine TL F1 g r [] [(16,AV.bool v4)] [] [] 0 ?_;by_cases h6 : v4=true
  ·replace hF:=AaZ h6 hF;have h6_:=h6;try simp at h6_
   have F2:=A3 F1 h6 h6_;refine CT (by simp [F2] <;> omega) ?_;refine SW F2 [] [none,none] [0,1,5,7,8,16] [(4,Iz v2)] [] [] 0 ?_;simp only [Option.some.injEq] at hF;subst hF;refine AW.ret (hQ _ _ _ ?_ (AaJ ?_)).1
   ·simp [Try.f88,F2]
   ·simp [F2]
  ·replace hF:=Aaa h6 hF;have h6_:=h6;try simp at h6_
   have F3:=A3 F1 h6 h6_;refine CF (by simp [F3] <;> omega) ?_;refine AW.skip ?_;refine hK169 _ _ _ ?_;refine RG [] [none,none] fun _ _ g r=>?_;try simp [F3]
   and_intros <;> first | exact GK g | apply r | omega | (simp [maxLen,F3] <;> omega)
   refine hK163 _ _ _ ?_;exact NX (k':=n1) (IntKind.wrap .i64 (v2+1)) hF (by simp [F3]) (by simp [F3])
 ·replace hF:=Aaa h1 hF;have h1_:=h1;try simp at h1_
  refine CF (by simp [h1,h1_] <;> omega) ?_;refine AW.exit ?_;try simp
  refine hK131 _ _ _ ?_;refine SW (A2 h1 h1_) [] [none] [0,1,7,8] [(4,Iz (-1))] [] [] 0 ?_;simp only [Option.some.injEq] at hF;subst hF;refine AW.ret (hQ _ _ _ ?_ (AaJ ?_)).1
  ·simp [Try.f88,h1,h1_]
  ·simp [h1,h1_]
theorem Ach (k : Nat) (v0 : (List Int)) (v1 : Bool) (hF : Abg k v0=some v1) :
 AbF Try.prog 69 [AV.lst false false (List.map (AV.int .i64) v0),AV.fn 71 []] [] (AV.bool v1) []:=by
 unfold Abg at hF;refine EN Try.func69 ?_;intro c0 w0 Q h0 hQ
 refine WK [(0,Lz v0),(1,AV.fn 71 [])] [] 0 (by simp) (by simp) ?_;refine SW trivial [] [none] [] [] [] [] 0 ?_;obtain ⟨v2,h1,hF⟩:=AaN hF;refine CL trivial [] [none,none,none,none,none] (Acy k _ _ h1) [0,1] [(4,AV.bool (decide (0≤v2)))] [] [] 0 ?_;simp only [Option.some.injEq] at hF;subst hF;refine AW.ret (hQ _ _ _ ?_ (AaJ ?_)).1
 ·simp [Try.f69]
 ·simp
theorem Agc (k : Nat) (v0 : Int) (v1 : (List AaI)) (v2 : (List Int)) (v3 : Bool) (hF : AcQ k v0 v1 v2=some v3) :
 AbF Try.prog 37 [AV.agg [AV.int .i64 v0,Q1 v1],AV.lst false false (List.map (AV.int .i64) v2)] [] (AV.bool v3) []:=by
 unfold AcQ at hF;refine EN Try.func37 ?_;intro c0 w0 Q h0 hQ
 refine WK [(0,AV.agg [Iz v0,Q1 v1]),(1,Lz v2)] [] 0 (by simp) (by simp) ?_;refine SW trivial [] [none,none] [0] [(2,AV.ptr 0 0)] [] [(0,.cells [Iz v0,Q1 v1])] 1 ?_;refine AW.seq fun K99 hK99=>?_;refine SR [] [none,none,none,none,some (10,false),some (10,false),some (10,false),some (10,false),some (10,false),some (10,false),none] fun _ _ g r=>?_;try simp
 and_intros
 try any_goals first | omega | (simp [maxLen] <;> omega)
 obtain ⟨v4,h1,hF⟩:=AaN hF;refine AC (Aej k _ _ _ h1) (.cons (.same (by simp)) .nil) ?_;by_cases h2 : v4≠0
 ·replace hF:=AaZ h2 hF;have h2_:=AbY h2;have h2__:=Abc h2;have F1:=A3 h2 h2_ h2__;refine TL F1 g r [] [(17,AV.bool true)] [] [] 1 ?_;refine CT (by simp [F1]) ?_;refine SW F1 [] [none] [1,2,17] [(4,AV.bool false)] [0] [] 1 ?_;simp only [Option.some.injEq] at hF;subst hF;refine AW.ret (hQ _ _ _ ?_ (AaJ ?_)).1
  ·simp [Try.f37,F1]
  ·simp [F1]
 ·replace hF:=Aaa h2 hF;have h2q : v4=0:=Classical.not_not.1 h2;have h2_:=Abf h2q;have h2__:=Abe h2q;have F2:=A3 h2_ h2__ h2q;refine TL F2 g r [] [(17,AV.bool ((v2.length : Int) !=(v1.length : Int)))] [] [] 1 ?_;by_cases h3 : (v2.length : Int)≠(v1.length : Int)
  ·replace hF:=AaZ h3 hF;have h3_:=AbY h3;have h3__:=Abc h3;have F3:=A4 F2 h3 h3_ h3__;refine CT (by simp [F3] <;> omega) ?_;refine SW F3 [] [none] [1,2,17] [(4,AV.bool false)] [0] [] 1 ?_;simp only [Option.some.injEq] at hF;subst hF;refine AW.ret (hQ _ _ _ ?_ (AaJ ?_)).1
   ·simp [Try.f37,F3]
   ·simp [F3]
  ·replace hF:=Aaa h3 hF;have h3q : (v2.length : Int)=(v1.length : Int):=Classical.not_not.1 h3;have h3_:=Abf h3q;have h3__:=Abe h3q;have F4:=A3 F2 h3_ h3__;refine CF (by simp [F4] <;> omega) ?_;refine AW.skip ?_;refine hK99 _ _ _ ?_;refine AW.seq fun K145 hK145=>?_;refine SW F4 [] [none,none,none,none] [17] [(19,Q1 v1),(20,Iz (v1.length : Int)),(21,Iz 0)] [] [] 1 ?_;refine AW.block ?_;refine AW.loopF (α:=Int) (fun n v5=>AcQ.L1 k v0 v1 v2 n v5=some v3) (fun v5=>[(1,Lz v2),(2,AV.ptr 0 0),(19,Q1 v1),(20,Iz (v1.length : Int)),(21,Iz v5)]) (fun v5=>[(0,.cells [Iz v0,Q1 v1])]) 1 k (0) hF (by simp [F4]) (by simp [F4]) (by simp) ?_;rintro (_|n1) v5 hF K177 hK177
   ·try dsimp only at hF
    rw [AcQ.L1] at hF; cases hF
   try dsimp only at hF
   rw [AcQ.L1] at hF;refine SW F4 [] [none] [] [(22,AV.bool (decide (v5<(v1.length : Int))))] [] [] 1 ?_;refine AW.seq fun K179 hK179=>?_;by_cases h4 : v5<(v1.length : Int)
   ·replace hF:=AaZ h4 hF;have h4_:=h4;try simp at h4_
    have F5:=A3 F4 h4 h4_;refine CT (by simp [F5] <;> omega) ?_;refine AW.skip ?_;refine hK179 _ _ _ ?_;refine AW.seq fun K183 hK183=>?_;refine AW.block ?_;refine SR [] [none,none,none,none,none,none] fun _ _ g r=>?_;obtain ⟨v6,h5,h6,h7,hF⟩:=Aad hF;have h7_:=Aas h7;try simp at h7_
    have h6_:=h6;try simp at h6_
    have F6:=A6 F5 h5 h6 h7 h7_ h6_;refine TL F6 g r [] [(5,Iz v5),(6,AV.ptr 1 0)] [] [(1,.cells [Iz v6.From,Iz v6.To,Iz v6.Cap])] 2 ?_;refine SR [] [none,none,none,none,none,none,none,none] fun _ _ g r=>?_;obtain ⟨v7,h8,h9,h10,hF⟩:=Aad hF;have h10_:=Aas h10;try simp at h10_
    have h9_:=h9;try simp at h9_
    have F7:=A6 F6 h8 h9 h10 h10_ h9_;try simp [F7]
    and_intros
    try any_goals first | omega | (simp [maxLen,F7] <;> omega)
    obtain ⟨v8,h11,hF⟩:=AaN hF;refine AC (Acr k _ _ _ _ h11) (.cons (.same (by simp [F7])) (.cons (.same (by simp [F7])) (.cons (.same (by simp [F7])) .nil))) ?_;refine TL F7 g r [5,6] [(33,AV.bool (!v8))] [1] [] 2 ?_;by_cases h12 : (!v8)=true
    ·replace hF:=AaZ h12 hF;have h12_:=h12;try simp at h12_
     have F8:=A3 F7 h12 h12_;refine CT (by simp [F8] <;> omega) ?_;refine SW F8 [] [none] [1,2,19,20,21,33] [(4,AV.bool false)] [0] [] 2 ?_;simp only [Option.some.injEq] at hF;subst hF;refine AW.ret (hQ _ _ _ ?_ (AaJ ?_)).1
     ·simp [Try.f37,F8]
     ·simp [F8]
    ·replace hF:=Aaa h12 hF;have h12_:=h12;try simp at h12_
     have F9:=A3 F7 h12 h12_;refine CF (by simp [F9] <;> omega) ?_;refine AW.skip ?_;refine hK183 _ _ _ ?_;refine RG [] [none,none] fun _ _ g r=>?_;try simp [F9]
     and_intros <;> first | exact GK g | apply r | omega | (simp [maxLen,F9] <;> omega)
     refine hK177 _ _ _ ?_;refine RN h0 [(0,0)] [(1,Lz v2),(2,AV.ptr 0 0),(19,Q1 v1),(20,Iz (v1.length : Int)),(21,Iz (IntKind.wrap .i64 (v5+1)))] [(0,.cells [Iz v0,Q1 v1])] 1 (by simp [F9]) (by simp [F9]) ?_;exact NX (k':=n1) (IntKind.wrap .i64 (v5+1)) hF (by simp [F9]) (by simp [F9])
   ·replace hF:=Aaa h4 hF;have h4_:=h4;try simp at h4_
    have F10:=A3 F4 h4 h4_;refine CF (by simp [F10] <;> omega) ?_;refine AW.exit ?_;try simp
    refine hK145 _ _ _ ?_;refine SR [] [none,none,none,none,none,none,none] fun _ _ g r=>?_;try simp [F10]
    and_intros
    try any_goals first | omega | (simp [maxLen,F10] <;> omega)
    obtain ⟨v9,h13,hF⟩:=AaN hF;refine AC (AfP k _ _ _ _ h13) (.cons (.same (by simp [F10])) (.cons (.same (by simp [F10])) .nil)) ?_;obtain ⟨h14,hF⟩:=AaR hF;have h14_:=h14;try simp at h14_
    have F11:=A3 F10 h14 h14_;try simp [F11]
    and_intros
    try any_goals first | omega | (simp [maxLen,F11] <;> omega)
    try any_goals exact List.ne_nil_of_length_pos (by omega)
    obtain ⟨v10,h15,hF⟩:=AaN hF;refine AbA (Ach k _ _ h15) (by simp) [] [1] [] rfl (.cons (Coe.lst (o:=Ci v9) (by simp [F11]) rfl (by simp [F11]) (by simp [Ac5]) (by simp [AhL,F11] <;> omega) (by first | (simp; done) | simpa using AlL (off:=(2 : Int).toNat) (F:=(AV.int .i64)) (es:=1) (fun _=>rfl) v9 (by omega))) (.cons (.same (by simp [F11])) .nil)) (by simp [F11]) (by decide) (by simp) (by simp) (.inr ⟨by simp,by simp⟩) (by simp) (by simp) ?_;refine TL F11 g r [1,2,19,20,21] [(4,AV.bool (!v10))] [0] [] 2 ?_;simp only [Option.some.injEq] at hF;subst hF;refine AW.ret (hQ _ _ _ ?_ (AaJ ?_)).1
    ·simp [Try.f37,F11]
    ·simp [F11]
theorem Agb (k : Nat) (v0 : Int) (v1 : (List AaI)) (v2 : (List Int)) (v3 : Int) (hF : AfE k v0 v1 v2=some v3) :
 AbF Try.prog 38 [AV.agg [AV.int .i64 v0,Q1 v1],AV.lst false false (List.map (AV.int .i64) v2)] [] (AV.int .i64 v3) []:=by
 unfold AfE at hF;refine EN Try.func38 ?_;intro c0 w0 Q h0 hQ
 refine WK [(0,AV.agg [Iz v0,Q1 v1]),(1,Lz v2)] [] 0 (by simp) (by simp) ?_;refine SW trivial [] [none,none] [0] [(2,AV.ptr 0 0)] [] [(0,.cells [Iz v0,Q1 v1])] 1 ?_;refine AW.seq fun K11 hK11=>?_;obtain ⟨v4,h1,hF⟩:=AaN hF;refine CL trivial [] [none,none,none,none] (Agc k _ _ _ _ h1) [] [(8,AV.bool (!v4))] [] [] 1 ?_;by_cases h2 : (!v4)=true
 ·replace hF:=AaZ h2 hF;have h2_:=h2;try simp at h2_
  refine CT (by simp [h2,h2_] <;> omega) ?_;refine SW (A2 h2 h2_) [] [none] [1,2,8] [(4,Iz 0)] [0] [] 1 ?_;simp only [Option.some.injEq] at hF;subst hF;refine AW.ret (hQ _ _ _ ?_ (AaJ ?_)).1
  ·simp [Try.f38,h2,h2_]
  ·simp [h2,h2_]
 ·replace hF:=Aaa h2 hF;have h2_:=h2;try simp at h2_
  refine CF (by simp [h2,h2_] <;> omega) ?_;refine AW.skip ?_;refine hK11 _ _ _ ?_;refine SR [] [none,none,none,none,none,none] fun _ _ g r=>?_;try simp [h2,h2_]
  and_intros
  try any_goals first | omega | (simp [h2,h2_,maxLen] <;> omega)
  obtain ⟨v5,h3,hF⟩:=AaN hF;refine AC (AfP k _ _ _ _ h3) (.cons (.same (by simp [h2,h2_])) (.cons (.same (by simp [h2,h2_])) .nil)) ?_;obtain ⟨⟨h4,h5⟩,hF⟩:=AaR hF;have h5_:=Aa3 h5;obtain ⟨v6,h6,h7,h8,hF⟩:=Aad hF;have h8_:=Aas h8;try simp at h8_
  have h7_:=h7;try simp at h7_
  have h8z:=Aew h8;have F1:=A9 h2 h2_ h4 h5 h5_ h6 h7 h8 (A3 h8_ h7_ h8z);refine TL F1 g r [1,2,8] [(4,Iz v6)] [0] [] 2 ?_;simp only [Option.some.injEq] at hF;subst hF;refine AW.ret (hQ _ _ _ ?_ (AaJ ?_)).1
  ·simp [Try.f38,F1]
  ·simp [F1]
theorem AhX (k : Nat) (v0 : Int) (v1 : Int) (v2 : Int) (v3 : Int) (v4 : Bool) (hF : Aey k v0 v1 v2 v3=some v4) :
 AbF Try.prog 67 [AV.agg [AV.int .i64 v0,AV.int .i64 v1,AV.int .i64 v2],AV.ptr 0 0] [.cells [AV.int .i64 v3]] (AV.bool v4) [some (.cells [AV.int .i64 v3])]:=by
 unfold Aey at hF;refine EN Try.func67 ?_;intro c0 w0 Q h0 hQ
 refine WK [(0,AV.agg [Iz v0,Iz v1,Iz v2]),(1,AV.ptr 0 0)] [(0,.cells [Iz v3])] 1 (by simp) (by simp) ?_;refine SW trivial [] [none,none] [0] [(2,AV.ptr 1 0)] [] [(1,.cells [Iz v0,Iz v1,Iz v2])] 2 ?_;refine SW trivial [] [none,none,none,none,none] [1,2] [(3,AV.bool (v0==v3))] [1] [] 2 ?_;simp only [Option.some.injEq] at hF;subst hF;refine AW.ret (hQ _ _ _ ?_ (AaJ ?_)).1
 ·simp [Try.f67]
 ·simp
theorem AcK (k : Nat) (v0 : (List AaI)) (v1 : Int) (v2 : Int) (hF : Aaj k v0 v1=some v2) :
 AbF Try.prog 66 [Q1 v0,AV.fn 67 [AV.ptr 0 0]] [.cells [AV.int .i64 v1]] (AV.int .i64 v2) [some (.cells [AV.int .i64 v1])]:=by
 unfold Aaj at hF;refine EN Try.func66 ?_;intro c0 w0 Q h0 hQ
 refine WK [(0,Q1 v0),(1,AV.fn 67 [AV.ptr 0 0])] [(0,.cells [Iz v1])] 1 (by simp) (by simp) ?_;refine SW trivial [] [none] [] [] [] [] 1 ?_;refine AW.seq fun K131 hK131=>?_;refine SW trivial [] [none,none,none] [] [(7,Iz (v0.length : Int)),(8,Iz 0)] [] [] 1 ?_;refine AW.block ?_;refine AW.loopF (α:=Int) (fun n v3=>Aaj.L1 k v0 v1 n v3=some v2) (fun v3=>[(0,Q1 v0),(1,AV.fn 67 [AV.ptr 0 0]),(7,Iz (v0.length : Int)),(8,Iz v3)]) (fun v3=>[(0,.cells [Iz v1])]) 1 k (0) hF (by simp) (by simp) (by simp) ?_;rintro (_|n1) v3 hF K163 hK163
 ·try dsimp only at hF
  rw [Aaj.L1] at hF; cases hF
 try dsimp only at hF
 rw [Aaj.L1] at hF;refine SW trivial [] [none] [] [(9,AV.bool (decide (v3<(v0.length : Int))))] [] [] 1 ?_;refine AW.seq fun K165 hK165=>?_;by_cases h1 : v3<(v0.length : Int)
 ·replace hF:=AaZ h1 hF;have h1_:=h1;try simp at h1_
  refine CT (by simp [h1,h1_] <;> omega) ?_;refine AW.skip ?_;refine hK165 _ _ _ ?_;refine AW.seq fun K169 hK169=>?_;refine AW.block ?_;refine SW (A2 h1 h1_) [] [none,none] [] [(5,Iz v3)] [] [] 1 ?_;refine SR [] [none,none,none,none,none,none] fun _ _ g r=>?_;obtain ⟨v4,h2,h3,h4,hF⟩:=Aad hF;have h4_:=Aas h4;try simp at h4_
  have h3_:=h3;try simp at h3_
  have F1:=A7 h1 h1_ h2 h3 h4 h4_ h3_;try simp [F1]
  and_intros
  try any_goals first | omega | (simp [maxLen,F1] <;> omega)
  obtain ⟨v5,h5,hF⟩:=AaN hF;refine AbA (AhX k _ _ _ _ _ h5) (by simp) [0] [] [] rfl (.cons (.same (by simp [F1])) (.cons (.same (by simp [F1])) .nil)) (by simp [F1]) (by decide) (by simp) (by simp) (.inl rfl) (by simp) (by simp) ?_;refine TL F1 g r [] [(16,AV.bool v5)] [] [] 1 ?_;by_cases h6 : v5=true
  ·replace hF:=AaZ h6 hF;have h6_:=h6;try simp at h6_
   have F2:=A3 F1 h6 h6_;refine CT (by simp [F2] <;> omega) ?_;refine SW F2 [] [none,none] [0,1,5,7,8,16] [(4,Iz v3)] [] [] 1 ?_;simp only [Option.some.injEq] at hF;subst hF;refine AW.ret (hQ _ _ _ ?_ (AaJ ?_)).1
   ·simp [Try.f66,F2]
   ·simp [F2]
  ·replace hF:=Aaa h6 hF;have h6_:=h6;try simp at h6_
   have F3:=A3 F1 h6 h6_;refine CF (by simp [F3] <;> omega) ?_;refine AW.skip ?_;refine hK169 _ _ _ ?_;refine RG [] [none,none] fun _ _ g r=>?_;try simp [F3]
   and_intros <;> first | exact GK g | apply r | omega | (simp [maxLen,F3] <;> omega)
   refine hK163 _ _ _ ?_;exact NX (k':=n1) (IntKind.wrap .i64 (v3+1)) hF (by simp [F3]) (by simp [F3])
 ·replace hF:=Aaa h1 hF;have h1_:=h1;try simp at h1_
  refine CF (by simp [h1,h1_] <;> omega) ?_;refine AW.exit ?_;try simp
  refine hK131 _ _ _ ?_;refine SW (A2 h1 h1_) [] [none] [0,1,7,8] [(4,Iz (-1))] [] [] 1 ?_;simp only [Option.some.injEq] at hF;subst hF;refine AW.ret (hQ _ _ _ ?_ (AaJ ?_)).1
  ·simp [Try.f66,h1,h1_]
  ·simp [h1,h1_]
theorem AeA (k : Nat) (v0 : (List Int)) (v1 : (List Int)) (hF : AcT k v0=some v1) :
 AbF Try.prog 65 [AV.lst false false (List.map (AV.int .i64) v0)] [] (AV.lst false false (List.map (AV.int .i64) v1)) []:=by
 unfold AcT at hF;obtain ⟨h1,hF⟩:=AaR hF;simp only [Option.some.injEq] at hF;subst hF;refine EN Try.func65 ?_;intro c0 w0 Q h0 hQ
 refine WK [(0,Lz v0)] [] 0 (by simp) (by simp) ?_;refine SQ [] [none] fun _ _ g r=>?_;simp
 refine ⟨g _ (by kernel_rfl),r _ _ _ ?_⟩;refine WK [(0,Lz v0)] [] 0 (by simp) (by simp) ?_;refine AW.nilSplit (fl:=false) (xs:=List.map (AV.int .i64) v0) 0 (by decide) (by simp) (fun hx=>?_) ?_
 ·simp at hx
  subst hx;refine WK [(0,AV.lst true false [])] [] 0 (by simp) (by simp) ?_;refine AW.seq fun K2 hK2=>?_;refine SQ [] [none,none] fun _ _ g r=>?_;simp
  refine ⟨g _ (by kernel_rfl),r _ _ _ ?_⟩;refine WK [(4,AV.bool true)] [] 0 (by simp) (by simp) ?_;refine CT (by simp) ?_;refine SQ [] [none] fun _ _ g r=>?_;simp
  refine ⟨g _ (by kernel_rfl),r _ _ _ ?_⟩;refine WK [(2,AV.lst true true [])] [] 0 (by simp) (by simp) ?_;refine AW.flg [(2,AV.lst false false [])] [] ⟨.lst (by simp),trivial⟩ trivial (by simp) ?_;refine AW.ret (hQ _ _ _ ?_ (AaJ ?_)).1
  ·simp [Try.f65]
  ·simp
 ·refine WK [(0,AV.nn (Lz v0))] [] 0 (by simp) (by simp) ?_;refine AW.seq fun K2 hK2=>?_;refine SQ [] [none,none] fun _ _ g r=>?_;simp
  refine ⟨g _ (by kernel_rfl),r _ _ _ ?_⟩;refine WK [(0,AV.nn (Lz v0)),(4,AV.bool false)] [] 0 (by simp) (by simp) ?_;refine AW.flg [(0,Lz v0)] [] ⟨.nn,trivial⟩ trivial (by decide) ?_;refine WK [(0,Lz v0),(4,AV.bool false)] [] 0 (by simp) (by simp) ?_;refine CF (by simp) ?_;refine AW.skip ?_;refine hK2 _ _ _ ?_;refine SQ [7] [none,none,none,none] fun _ _ g r=>?_;simp
  and_intros <;> first | exact GK g | apply r | omega | (unfold maxLen; omega)
  refine WK [(2,AV.slc 0 0 1 v0.length false)] [(0,Gi v0)] 1 (by simp) (by simp) ?_;refine AW.frz 0 (o:=Gi v0) (by simp) rfl [(2,Lz v0)] [] ⟨(.l (by simp) (by simp) (by simp) (by simp)),trivial⟩ trivial ?_;refine AW.ret (hQ _ _ _ ?_ (AaJ ?_)).1
  ·simp [Try.f65]
  ·simp
theorem Aiw (k : Nat) (v0 : Int) (v1 : (List AaI)) (v2 : (List Int)) (v3 : (List (List Int))) (v4 : Int) (hF : Aaf k v0 v1 v2=some (v3,v4)) :
 AbF Try.prog 36 [AV.agg [AV.int .i64 v0,Q1 v1],AV.lst false false (List.map (AV.int .i64) v2)] [] (AV.tup [AV.slc 0 0 1 v3.length false,AV.int .i64 v4]) [some (.grow (List.map (sl (AV.int .i64)) v3))]:=by
 unfold Aaf at hF;refine EN Try.func36 ?_;intro c0 w0 Q h0 hQ
 refine WK [(0,AV.agg [Iz v0,Q1 v1]),(1,Lz v2)] [] 0 (by simp) (by simp) ?_;refine SW trivial [] [none,none,none] [0] [(2,AV.ptr 0 0)] [] [(0,.cells [Iz v0,Q1 v1])] 1 ?_;refine AW.seq fun K48570 hK48570=>?_;obtain ⟨v5,h1,hF⟩:=AaN hF;refine CL trivial [] [none,none,none] (Aej k _ _ _ h1) [] [(6,Iz v5)] [] [] 1 ?_;refine SW trivial [] [none,none] [] [(20,AV.bool (v5 !=0))] [] [] 1 ?_;by_cases h2 : v5≠0
 ·replace hF:=AaZ h2 hF;have h2_:=AbY h2;have h2__:=Abc h2;have F1:=A3 h2 h2_ h2__;refine CT (by simp [F1] <;> omega) ?_;refine SW F1 [] [none,none,none] [1,2,6,20] [(4,AV.lst true true (List.map (sl (AV.int .i64)) ([] : List (List Int)))),(5,Iz v5)] [0] [] 1 ?_;refine AW.own' 4 1 true (by simp [F1]) (by decide) ?_;refine RM h0 [(0,1)] [(4,AV.slc 0 0 1 (([] : List (List Int)).length) false),(5,Iz v5)] [(0,.grow (List.map (sl (AV.int .i64)) ([] : List (List Int))))] 1 (by simp [F1]) (by simp [F1]) ?_;simp only [Option.some.injEq,Prod.mk.injEq] at hF;obtain ⟨e0,e1⟩:=hF;subst e0 e1;refine AW.ret (hQ _ _ _ ?_ (AaJ ?_)).1
  ·simp [Try.f36,F1]
  ·simp [F1]
 ·replace hF:=Aaa h2 hF;have h2q : v5=0:=Classical.not_not.1 h2;have h2_:=Abf h2q;have h2__:=Abe h2q;have F2:=A3 h2_ h2__ h2q;refine CF (by simp [F2] <;> omega) ?_;refine AW.skip ?_;refine hK48570 _ _ _ ?_;refine AW.seq fun K48576 hK48576=>?_;obtain ⟨v6,h3,hF⟩:=AaN hF;refine CL F2 [] [none,none,none,none] (Agc k _ _ _ _ h3) [6,20] [(25,AV.bool (!v6))] [] [] 1 ?_;by_cases h4 : (!v6)=true
  ·replace hF:=AaZ h4 hF;have h4_:=h4;try simp at h4_
   have F3:=A3 F2 h4 h4_;refine CT (by simp [F3] <;> omega) ?_;refine SW F3 [] [none,none] [1,2,25] [(4,AV.lst true true (List.map (sl (AV.int .i64)) ([] : List (List Int)))),(5,Iz 17)] [0] [] 1 ?_;refine AW.own' 4 1 true (by simp [F3]) (by decide) ?_;refine RM h0 [(0,1)] [(4,AV.slc 0 0 1 (([] : List (List Int)).length) false),(5,Iz 17)] [(0,.grow (List.map (sl (AV.int .i64)) ([] : List (List Int))))] 1 (by simp [F3]) (by simp [F3]) ?_;simp only [Option.some.injEq,Prod.mk.injEq] at hF;obtain ⟨e0,e1⟩:=hF;subst e0 e1;refine AW.ret (hQ _ _ _ ?_ (AaJ ?_)).1
   ·simp [Try.f36,F3]
   ·simp [F3]
  ·replace hF:=Aaa h4 hF;have h4_:=h4;try simp at h4_
   have F4:=A3 F2 h4 h4_;refine CF (by simp [F4] <;> omega) ?_;refine AW.skip ?_;refine hK48576 _ _ _ ?_;obtain ⟨v7,h5,hF⟩:=AaN hF;refine CL F4 [] [none,none,none] (AcR k _ _ h5) [25] [(7,AV.slc 1 0 1 v7.length false)] [] [(1,Gi v7)] 2 ?_;refine SW F4 [] [none] [] [(8,AV.lst true true (List.map (sl (AV.int .i64)) ([] : List (List Int))))] [] [] 2 ?_;refine AW.seq fun K72855 hK72855=>?_;obtain ⟨v8,h6,hF⟩:=AaN hF;refine CL F4 [] [none,none,none,none] (Agb k _ _ _ _ h6) [1] [(30,Iz v8),(31,Iz 0)] [] [] 2 ?_;refine AW.block ?_;refine AW.own' 8 1 true (by simp [F4]) (by decide) ?_;refine AW.loopF (α:=(Int×(List Int)×(List (List Int)))) (fun n (v9,v10,v11)=>Aaf.L1 k v1 v8 n v9 v10 v11=some (v3,v4)) (fun (v9,v10,v11)=>[(2,AV.ptr 0 0),(7,AV.slc 1 0 1 v10.length false),(8,AV.slc 2 0 1 v11.length false),(30,Iz v8),(31,Iz v9)]) (fun (v9,v10,v11)=>[(0,.cells [Iz v0,Q1 v1]),(1,Gi v10),(2,.grow (List.map (sl (AV.int .i64)) v11))]) 3 k ((0,v7,([] : List (List Int)))) hF (by simp [F4]) (by simp [F4]) (by simp) ?_;rintro (_|n1) ⟨v9,v10,v11⟩ hF K91061 hK91061
   ·try dsimp only at hF
    rw [Aaf.L1] at hF; cases hF
   try dsimp only at hF
   rw [Aaf.L1] at hF;refine SW F4 [] [none] [] [(32,AV.bool (decide (v9<v8)))] [] [] 3 ?_;refine AW.seq fun K91063 hK91063=>?_;by_cases h7 : v9<v8
   ·replace hF:=AaZ h7 hF;have h7_:=h7;try simp at h7_
    have F5:=A3 F4 h7 h7_;refine CT (by simp [F5] <;> omega) ?_;refine AW.skip ?_;refine hK91063 _ _ _ ?_;refine AW.seq fun K94096 hK94096=>?_;refine AW.block ?_;refine SW F5 [] [none] [] [(9,AV.lst true true (List.map (AV.int .i64) ([] : List Int)))] [] [] 3 ?_;refine SW F5 [] [none,none,none,none] [] [(10,AV.map 3)] [] [(3,.mp (mpA (AV.int .i64) (AV.int .i64) (AbE ([] : (List (Int×Int))) 0 0)))] 4 ?_;refine AW.seq fun K95613 hK95613=>?_;refine SW F5 [] [none,none] [] [(11,AV.ptr 4 0)] [] [(4,.cells [Iz 0])] 5 ?_;refine AW.block ?_;refine AW.own' 9 1 true (by simp [F5]) (by decide) ?_;refine RM h0 [(0,0),(1,1),(2,2),(3,5),(4,3),(5,4)] [(2,AV.ptr 0 0),(7,AV.slc 1 0 1 v10.length false),(8,AV.slc 2 0 1 v11.length false),(9,AV.slc 3 0 1 (([] : List Int).length) false),(10,AV.map 4),(11,AV.ptr 5 0),(30,Iz v8),(31,Iz v9)] [(0,.cells [Iz v0,Q1 v1]),(1,Gi v10),(2,.grow (List.map (sl (AV.int .i64)) v11)),(3,Gi ([] : List Int)),(4,.mp (mpA (AV.int .i64) (AV.int .i64) (AbE ([] : (List (Int×Int))) 0 0))),(5,.cells [Iz 0])] 6 (by simp [F5]) (by simp [F5]) ?_;refine AW.loopF (α:=((List Int)×(List Int)×(List (Int×Int))×Int)) (fun n (v12,v13,v14,v15)=>Aaf.L2 k v1 v9 v11 (fun v9_ v10_ v11_=>Aaf.L1 k v1 v8 n1 v9_ v10_ v11_) n v12 v13 v14 v15=some (v3,v4)) (fun (v12,v13,v14,v15)=>[(2,AV.ptr 0 0),(7,AV.slc 1 0 1 v12.length false),(8,AV.slc 2 0 1 v11.length false),(9,AV.slc 3 0 1 v13.length false),(10,AV.map 4),(11,AV.ptr 5 0),(30,Iz v8),(31,Iz v9)]) (fun (v12,v13,v14,v15)=>[(0,.cells [Iz v0,Q1 v1]),(1,Gi v12),(2,.grow (List.map (sl (AV.int .i64)) v11)),(3,Gi v13),(4,.mp (mpA (AV.int .i64) (AV.int .i64) v14)),(5,.cells [Iz v15])]) 6 k ((v10,([] : List Int),AbE ([] : (List (Int×Int))) 0 0,0)) hF (by simp [F5]) (by simp [F5]) (by simp) ?_;rintro (_|n2) ⟨v12,v13,v14,v15⟩ hF K96749 hK96749
    ·try dsimp only at hF
     rw [Aaf.L2] at hF; cases hF
    try dsimp only at hF
    rw [Aaf.L2] at hF;refine AW.seq fun K96751 hK96751=>?_;refine SW F5 [] [none,none] [] [(36,AV.bool (v15 !=1))] [] [] 6 ?_;by_cases h8 : v15≠1
    ·replace hF:=AaZ h8 hF;have h8_:=AbY h8;have h8__:=Abc h8;have F6:=A4 F5 h8 h8_ h8__;refine CT (by simp [F6] <;> omega) ?_;refine AW.skip ?_;refine hK96751 _ _ _ ?_;refine AW.seq fun K96939 hK96939=>?_;refine AW.block ?_;refine SR [] [none,none,none,none,none] fun _ _ g r=>?_;try simp [F6]
     and_intros
     try any_goals first | omega | (simp [maxLen,F6] <;> omega)
     obtain ⟨v16,h9,hF⟩:=AaN hF;refine AbA (AcK k _ _ _ h9) (by simp) [5] [] [] rfl (.cons (.same (by simp [F6])) (.cons (.same (by simp [F6])) .nil)) (by simp [F6]) (by decide) (by simp) (by simp) (.inl rfl) (by simp) (by simp) ?_;refine TL F6 g r [] [(12,Iz v16)] [] [] 6 ?_;refine AW.midF (α:=Int) (fun v17=>Aaf.J3 k v1 v12 v13 v14 (fun v12_ v13_ v14_ v15_=>Aaf.L2 k v1 v9 v11 (fun v9_ v10_ v11_=>Aaf.L1 k v1 v8 n1 v9_ v10_ v11_) n2 v12_ v13_ v14_ v15_) v17=some (v3,v4)) (fun v17=>[(2,AV.ptr 0 0),(7,AV.slc 1 0 1 v12.length false),(8,AV.slc 2 0 1 v11.length false),(9,AV.slc 3 0 1 v13.length false),(10,AV.map 4),(11,AV.ptr 5 0),(12,Iz v17),(30,Iz v8),(31,Iz v9)]) (fun v17=>[(0,.cells [Iz v0,Q1 v1]),(1,Gi v12),(2,.grow (List.map (sl (AV.int .i64)) v11)),(3,Gi v13),(4,.mp (mpA (AV.int .i64) (AV.int .i64) v14)),(5,.cells [Iz v15])]) 6 (fun K97110 hK97110=>?_) ?_
     ·refine AW.block ?_;refine AW.loopF (α:=Int) (fun n v29=>Aaf.L7 k v1 v12 v13 v14 v15 (fun v12_ v13_ v14_ v15_=>Aaf.L2 k v1 v9 v11 (fun v9_ v10_ v11_=>Aaf.L1 k v1 v8 n1 v9_ v10_ v11_) n2 v12_ v13_ v14_ v15_) n v29=some (v3,v4)) (fun v29=>[(2,AV.ptr 0 0),(7,AV.slc 1 0 1 v12.length false),(8,AV.slc 2 0 1 v11.length false),(9,AV.slc 3 0 1 v13.length false),(10,AV.map 4),(11,AV.ptr 5 0),(12,Iz v29),(30,Iz v8),(31,Iz v9)]) (fun v29=>[(0,.cells [Iz v0,Q1 v1]),(1,Gi v12),(2,.grow (List.map (sl (AV.int .i64)) v11)),(3,Gi v13),(4,.mp (mpA (AV.int .i64) (AV.int .i64) v14)),(5,.cells [Iz v15])]) 6 k (v16) hF (by simp [F6]) (by simp [F6]) (by simp) ?_;rintro (_|n7) v29 hF K97123 hK97123
      ·try dsimp only at hF
       rw [Aaf.L7] at hF; cases hF
      try dsimp only at hF
      rw [Aaf.L7] at hF;refine AW.midF (α:=Unit) (fun _=>Aaf.J8 k v29 (fun v29_=>Aaf.L7 k v1 v12 v13 v14 v15 (fun v12_ v13_ v14_ v15_=>Aaf.L2 k v1 v9 v11 (fun v9_ v10_ v11_=>Aaf.L1 k v1 v8 n1 v9_ v10_ v11_) n2 v12_ v13_ v14_ v15_) n7 v29_)=some (v3,v4)) (fun _=>[(2,AV.ptr 0 0),(7,AV.slc 1 0 1 v12.length false),(8,AV.slc 2 0 1 v11.length false),(9,AV.slc 3 0 1 v13.length false),(10,AV.map 4),(11,AV.ptr 5 0),(12,Iz v29),(30,Iz v8),(31,Iz v9)]) (fun _=>[(0,.cells [Iz v0,Q1 v1]),(1,Gi v12),(2,.grow (List.map (sl (AV.int .i64)) v11)),(3,Gi v13),(4,.mp (mpA (AV.int .i64) (AV.int .i64) v14)),(5,.cells [Iz v15])]) 6 (fun K97126 hK97126=>?_) ?_
      ·refine SR [] [none,none,none,none,none,none,some (46,true),some (46,true),some (46,true),some (46,true),some (46,true),some (46,true),some (46,true),some (46,true),some (46,true),some (55,false),some (55,false),some (55,false),some (55,false),some (55,false),some (46,true),none] fun _ _ g r=>?_;by_cases h41 : v29<(v1.length : Int)
       ·replace hF:=AaZ h41 hF;have h41_:=h41;try simp at h41_
        obtain ⟨v30,h42,h43,h44,hF⟩:=Aad hF;have h44_:=Aas h44;try simp at h44_
        have h43_:=h43;try simp at h43_
        by_cases h45 : v30.From≠v15
        ·replace hF:=AaZ h45 hF;have h45_:=AbY h45;have h45__:=Abc h45;have F7:=A9 F6 h41 h41_ h42 h43 h44 h44_ h43_ (A3 h45 h45_ h45__);refine TL F7 g r [] [(62,AV.bool true)] [] [] 6 ?_;refine CT (by simp [F7]) ?_;refine AW.skip ?_;refine hK97126 _ _ _ ?_;exact JN (()) hF (by simp [F7]) (by simp [F7])
        ·replace hF:=Aaa h45 hF;have h45q : v30.From=v15:=Classical.not_not.1 h45;have h45_:=Abf h45q;have h45__:=Abe h45q;obtain ⟨⟨h46,h47⟩,hF⟩:=AaR hF;have h47_:=Aa3 h47;obtain ⟨v31,h48,h49,h50,hF⟩:=Aad hF;have h50_:=Aas h50;try simp at h50_
         have h49_:=h49;try simp at h49_
         have F8:=A9 F6 h41 h41_ h42 h43 h44 h44_ h43_ (A9 h45_ h45__ h46 h47 h47_ h48 h49 h50 (A2 h50_ h49_));refine TL F8 g r [] [(62,AV.bool (v31==0))] [] [] 6 ?_;by_cases h51 : v31=0
         ·replace hF:=AaZ h51 hF;have h51q : v31=0:=h51;have h51_:=Abf h51q;have h51__:=Abe h51q;have F9:=A4 F8 h51_ h51__ h51q;refine CT (by simp [F9] <;> omega) ?_;refine AW.skip ?_;refine hK97126 _ _ _ ?_;exact JN (()) hF (by simp [F9]) (by simp [F9])
         ·replace hF:=Aaa h51 hF;have h51_:=AbY h51;have h51__:=Abc h51;have F10:=A4 F8 h51 h51_ h51__;refine CF (by simp [F10] <;> omega) ?_;refine AW.exit ?_;try simp
          refine hK97110 _ _ _ ?_;exact JN (v29) hF (by simp [F10]) (by simp [F10])
       ·replace hF:=Aaa h41 hF;have h41_:=h41;try simp at h41_
        have F11:=A3 F6 h41 h41_;refine TL F11 g r [] [(62,AV.bool false)] [] [] 6 ?_;refine CF (by simp [F11]) ?_;refine AW.exit ?_;try simp
        refine hK97110 _ _ _ ?_;exact JN (v29) hF (by simp [F11]) (by simp [F11])
      ·rintro ⟨⟩ hF
       try dsimp only at hF
       unfold Aaf.J8 at hF;refine AW.block ?_;refine RG [] [none,none,none] fun _ _ g r=>?_;try simp [F6]
       and_intros <;> first | exact GK g | apply r | omega | (simp [maxLen,F6] <;> omega)
       refine hK97123 _ _ _ ?_;exact NX (k':=n7) (IntKind.wrap .i64 (v29+1)) hF (by simp [F6]) (by simp [F6])
     ·rintro v17 hF
      try dsimp only at hF
      unfold Aaf.J3 at hF;refine SR [] [none,none,none,none,none,none,none] fun _ _ g r=>?_;obtain ⟨⟨h10,h11⟩,hF⟩:=AaR hF;have h11_:=Aa3 h11;obtain ⟨v18,h12,h13,h14,hF⟩:=Aad hF;have h14_:=Aas h14;try simp at h14_
      have h13_:=h13;try simp at h13_
      obtain ⟨⟨h15,h16⟩,hF⟩:=AaR hF;have h16_:=Aa3 h16;have F12:=A9 F6 h10 h11 h11_ h12 h13 h14 h14_ (A4 h13_ h15 h16 h16_);refine TL F12 g r [7] [(7,AV.slc 1 0 1 ((v12.set (v17).toNat (IntKind.wrap .i64 (v18-1))).length) false)] [1] [(1,Gi (v12.set (v17).toNat (IntKind.wrap .i64 (v18-1))))] 6 ?_;refine SQ [] [none,none,none,none,none,none,none,none,none,none,none,none] fun _ _ g r=>?_;obtain ⟨h17,hF⟩:=AaR hF;have h17_:=h17;try simp at h17_
      obtain ⟨v19,h18,h19,h20,hF⟩:=Aad hF;have h20_:=Aas h20;try simp at h20_
      have h19_:=h19;try simp at h19_
      have F13:=A7 F12 h17 h18 h19 h20 h20_ h19_;try simp [F13]
      and_intros <;> first | exact GK g | apply r | omega | (simp [maxLen,F13] <;> omega)
      refine WK [(2,AV.ptr 0 0),(7,AV.slc 1 0 1 ((v12.set (v17).toNat (IntKind.wrap .i64 (v18-1))).length) false),(8,AV.slc 2 0 1 v11.length false),(9,AV.slc 6 0 1 ((v13++([v17] : List Int)).length) false),(10,AV.map 4),(11,AV.ptr 5 0),(30,Iz v8),(31,Iz v9)] [(0,.cells [Iz v0,Q1 v1]),(1,Gi (v12.set (v17).toNat (IntKind.wrap .i64 (v18-1)))),(2,.grow (List.map (sl (AV.int .i64)) v11)),(4,.mp (mpA (AV.int .i64) (AV.int .i64) v14)),(5,.cells [Iz v19.To]),(6,Gi (v13++([v17] : List Int)))] 7 (by simp [F13] <;> omega) (by simp [F13]) ?_;refine AW.midF (α:=((List Int)×(List (Int×Int)))) (fun (v20,v21)=>Aaf.J4 k v12 v17 v18 v19 (fun v12_ v13_ v14_ v15_=>Aaf.L2 k v1 v9 v11 (fun v9_ v10_ v11_=>Aaf.L1 k v1 v8 n1 v9_ v10_ v11_) n2 v12_ v13_ v14_ v15_) v20 v21=some (v3,v4)) (fun (v20,v21)=>[(2,AV.ptr 0 0),(7,AV.slc 1 0 1 ((v12.set (v17).toNat (IntKind.wrap .i64 (v18-1))).length) false),(8,AV.slc 2 0 1 v11.length false),(9,AV.slc 3 0 1 v20.length false),(10,AV.map 4),(11,AV.ptr 5 0),(30,Iz v8),(31,Iz v9)]) (fun (v20,v21)=>[(0,.cells [Iz v0,Q1 v1]),(1,Gi (v12.set (v17).toNat (IntKind.wrap .i64 (v18-1)))),(2,.grow (List.map (sl (AV.int .i64)) v11)),(3,Gi v20),(4,.mp (mpA (AV.int .i64) (AV.int .i64) v21)),(5,.cells [Iz v19.To])]) 6 (fun K97036 hK97036=>?_) ?_
      ·refine AW.midF (α:=(Int×Bool)) (fun (v22,v23)=>Aaf.J5 k v1 v12 v13 v14 v17 v18 v19 (fun v12_ v13_ v14_ v15_=>Aaf.L2 k v1 v9 v11 (fun v9_ v10_ v11_=>Aaf.L1 k v1 v8 n1 v9_ v10_ v11_) n2 v12_ v13_ v14_ v15_) v22 v23=some (v3,v4)) (fun (v22,v23)=>[(2,AV.ptr 0 0),(7,AV.slc 1 0 1 ((v12.set (v17).toNat (IntKind.wrap .i64 (v18-1))).length) false),(8,AV.slc 2 0 1 v11.length false),(9,AV.slc 3 0 1 ((v13++([v17] : List Int)).length) false),(10,AV.map 4),(11,AV.ptr 5 0),(13,Iz v22),(14,AV.bool v23),(30,Iz v8),(31,Iz v9)]) (fun (v22,v23)=>[(0,.cells [Iz v0,Q1 v1]),(1,Gi (v12.set (v17).toNat (IntKind.wrap .i64 (v18-1)))),(2,.grow (List.map (sl (AV.int .i64)) v11)),(3,Gi (v13++([v17] : List Int))),(4,.mp (mpA (AV.int .i64) (AV.int .i64) v14)),(5,.cells [Iz v19.To])]) 6 (fun K97109 hK97109=>?_) ?_
       ·refine RG [] [none,none,none,none,none,none,none,none] fun _ _ g r=>?_;rcases Ab0 hF with ⟨v28,h39,hF⟩ | ⟨h40,hF⟩
        ·have F14:=A2 F13 h39;try simp [F14]
         and_intros <;> first | exact GK g | apply r | omega | (simp [maxLen,F14] <;> omega)
         refine hK97109 _ _ _ ?_;refine RN h0 [(0,0),(1,1),(2,2),(3,6),(4,4),(5,5)] [(2,AV.ptr 0 0),(7,AV.slc 1 0 1 ((v12.set (v17).toNat (IntKind.wrap .i64 (v18-1))).length) false),(8,AV.slc 2 0 1 v11.length false),(9,AV.slc 3 0 1 ((v13++([v17] : List Int)).length) false),(10,AV.map 4),(11,AV.ptr 5 0),(13,Iz v28),(14,AV.bool true),(30,Iz v8),(31,Iz v9)] [(0,.cells [Iz v0,Q1 v1]),(1,Gi (v12.set (v17).toNat (IntKind.wrap .i64 (v18-1)))),(2,.grow (List.map (sl (AV.int .i64)) v11)),(3,Gi (v13++([v17] : List Int))),(4,.mp (mpA (AV.int .i64) (AV.int .i64) v14)),(5,.cells [Iz v19.To])] 6 (by simp [F14] <;> omega) (by simp [F14]) ?_;exact JN ((v28,true)) hF (by simp [F14]) (by simp [F14])
        ·have F15:=A2 F13 h40;try simp [F15]
         and_intros <;> first | exact GK g | apply r | omega | (simp [maxLen,F15] <;> omega)
         refine hK97109 _ _ _ ?_;refine RN h0 [(0,0),(1,1),(2,2),(3,6),(4,4),(5,5)] [(2,AV.ptr 0 0),(7,AV.slc 1 0 1 ((v12.set (v17).toNat (IntKind.wrap .i64 (v18-1))).length) false),(8,AV.slc 2 0 1 v11.length false),(9,AV.slc 3 0 1 ((v13++([v17] : List Int)).length) false),(10,AV.map 4),(11,AV.ptr 5 0),(13,Iz 0),(14,AV.bool false),(30,Iz v8),(31,Iz v9)] [(0,.cells [Iz v0,Q1 v1]),(1,Gi (v12.set (v17).toNat (IntKind.wrap .i64 (v18-1)))),(2,.grow (List.map (sl (AV.int .i64)) v11)),(3,Gi (v13++([v17] : List Int))),(4,.mp (mpA (AV.int .i64) (AV.int .i64) v14)),(5,.cells [Iz v19.To])] 6 (by simp [F15] <;> omega) (by simp [F15]) ?_;exact JN ((0,false)) hF (by simp [F15]) (by simp [F15])
       ·rintro ⟨v22,v23⟩ hF
        try dsimp only at hF
        unfold Aaf.J5 at hF;refine SQ [] [none] fun _ _ g r=>?_;try simp [F13]
        and_intros <;> first | exact GK g | apply r | omega | (simp [maxLen,F13] <;> omega)
        refine WK [(2,AV.ptr 0 0),(7,AV.slc 1 0 1 ((v12.set (v17).toNat (IntKind.wrap .i64 (v18-1))).length) false),(8,AV.slc 2 0 1 v11.length false),(9,AV.slc 3 0 1 ((v13++([v17] : List Int)).length) false),(10,AV.map 4),(11,AV.ptr 5 0),(13,Iz v22),(30,Iz v8),(31,Iz v9),(87,AV.bool v23)] [(0,.cells [Iz v0,Q1 v1]),(1,Gi (v12.set (v17).toNat (IntKind.wrap .i64 (v18-1)))),(2,.grow (List.map (sl (AV.int .i64)) v11)),(3,Gi (v13++([v17] : List Int))),(4,.mp (mpA (AV.int .i64) (AV.int .i64) v14)),(5,.cells [Iz v19.To])] 6 (by simp [F13] <;> omega) (by simp [F13]) ?_;by_cases h21 : v23=true
        ·replace hF:=AaZ h21 hF;have h21_:=h21;try simp at h21_
         have F16:=A3 F13 h21 h21_;refine CT (by simp [F16] <;> omega) ?_;refine AW.seq fun K97073 hK97073=>?_;refine SQ [] [none,none,none,none,none] fun _ _ g r=>?_;obtain ⟨⟨h22,h23,h24⟩,hF⟩:=AaR hF;have h22n:=Ac6 h22;have h22_:=h22;try simp at h22_
         have h23_:=h23;try simp at h23_
         have h24_:=h24;try simp at h24_
         have F17:=A8 F16 h22 h23 h24 h22_ h23_ h24_ h22n;try simp [F17]
         and_intros <;> first | exact GK g | apply r | omega | (simp [maxLen,F17] <;> omega)
         refine WK [(2,AV.ptr 0 0),(7,AV.slc 1 0 1 ((v12.set (v17).toNat (IntKind.wrap .i64 (v18-1))).length) false),(8,AV.slc 2 0 1 v11.length false),(9,AV.slc 3 0 1 ((v13++([v17] : List Int)).length) false),(10,AV.map 4),(11,AV.ptr 5 0),(13,Iz v22),(30,Iz v8),(31,Iz v9),(90,AV.slc 3 ((v22).toNat) 1 ((v13++([v17] : List Int)).length-((v22).toNat)) false),(91,Iz ((((v13++([v17] : List Int)).length-((v22).toNat)) : Nat) : Int)),(92,Iz 0)] [(0,.cells [Iz v0,Q1 v1]),(1,Gi (v12.set (v17).toNat (IntKind.wrap .i64 (v18-1)))),(2,.grow (List.map (sl (AV.int .i64)) v11)),(3,Gi (v13++([v17] : List Int))),(4,.mp (mpA (AV.int .i64) (AV.int .i64) v14)),(5,.cells [Iz v19.To])] 6 (by simp [F17] <;> omega) (by simp [F17]) ?_;refine AW.block ?_;refine AW.loopF (α:=(Int×(List (Int×Int)))) (fun n (v24,v25)=>Aaf.L6 k v1 v12 v13 v17 v18 v19 v22 (fun v12_ v13_ v14_ v15_=>Aaf.L2 k v1 v9 v11 (fun v9_ v10_ v11_=>Aaf.L1 k v1 v8 n1 v9_ v10_ v11_) n2 v12_ v13_ v14_ v15_) n v24 v25=some (v3,v4)) (fun (v24,v25)=>[(2,AV.ptr 0 0),(7,AV.slc 1 0 1 ((v12.set (v17).toNat (IntKind.wrap .i64 (v18-1))).length) false),(8,AV.slc 2 0 1 v11.length false),(9,AV.slc 3 0 1 ((v13++([v17] : List Int)).length) false),(10,AV.map 4),(11,AV.ptr 5 0),(13,Iz v22),(30,Iz v8),(31,Iz v9),(90,AV.slc 3 ((v22).toNat) 1 ((v13++([v17] : List Int)).length-((v22).toNat)) false),(91,Iz ((((v13++([v17] : List Int)).length-((v22).toNat)) : Nat) : Int)),(92,Iz v24)]) (fun (v24,v25)=>[(0,.cells [Iz v0,Q1 v1]),(1,Gi (v12.set (v17).toNat (IntKind.wrap .i64 (v18-1)))),(2,.grow (List.map (sl (AV.int .i64)) v11)),(3,Gi (v13++([v17] : List Int))),(4,.mp (mpA (AV.int .i64) (AV.int .i64) v25)),(5,.cells [Iz v19.To])]) 6 k ((0,v14)) hF (by simp [F17]) (by simp [F17]) (by simp) ?_;rintro (_|n6) ⟨v24,v25⟩ hF K97099 hK97099
         ·try dsimp only at hF
          rw [Aaf.L6] at hF; cases hF
         try dsimp only at hF
         rw [Aaf.L6] at hF;refine SQ [] [none] fun _ _ g r=>?_;try simp [F17]
         and_intros <;> first | exact GK g | apply r | omega | (simp [maxLen,F17] <;> omega)
         refine WK [(2,AV.ptr 0 0),(7,AV.slc 1 0 1 ((v12.set (v17).toNat (IntKind.wrap .i64 (v18-1))).length) false),(8,AV.slc 2 0 1 v11.length false),(9,AV.slc 3 0 1 ((v13++([v17] : List Int)).length) false),(10,AV.map 4),(11,AV.ptr 5 0),(13,Iz v22),(30,Iz v8),(31,Iz v9),(90,AV.slc 3 ((v22).toNat) 1 ((v13++([v17] : List Int)).length-((v22).toNat)) false),(91,Iz ((((v13++([v17] : List Int)).length-((v22).toNat)) : Nat) : Int)),(92,Iz v24),(93,AV.bool (decide (v24<((((v13++([v17] : List Int)).length-((v22).toNat)) : Nat) : Int))))] [(0,.cells [Iz v0,Q1 v1]),(1,Gi (v12.set (v17).toNat (IntKind.wrap .i64 (v18-1)))),(2,.grow (List.map (sl (AV.int .i64)) v11)),(3,Gi (v13++([v17] : List Int))),(4,.mp (mpA (AV.int .i64) (AV.int .i64) v25)),(5,.cells [Iz v19.To])] 6 (by simp [F17] <;> omega) (by simp [F17]) ?_;refine AW.seq fun K97101 hK97101=>?_;by_cases h25 : v24<((((v13++([v17] : List Int)).length-((v22).toNat)) : Nat) : Int)
         ·replace hF:=AaZ h25 hF;have h25_:=h25;try simp at h25_
          have F18:=A3 F17 h25 h25_;refine CT (by simp [F18] <;> omega) ?_;refine AW.skip ?_;refine hK97101 _ _ _ ?_;refine AW.seq fun K97104 hK97104=>?_;refine AW.block ?_;refine SQ [] [none,none,none] fun _ _ g r=>?_;obtain ⟨⟨h26,h28,h27⟩,hF⟩:=AaR hF;have h27_:=Aa3 h27;obtain ⟨v26,h29,h30,h31,hF⟩:=Aad hF;simp only [Int.toNat_natCast] at h30 h31;have h31_:=Aas h31;try simp at h31_
          have h30_:=h30;try simp at h30_
          have h31q:=Aic ((AV.int .i64)) h31;simp only [List.map_append,List.map_cons,List.map_nil] at h31q;have h31__:=Aas (Aic ((AV.int .i64)) h31);try simp at h31__
          have F19:=A9 F18 h26 h27 h28 h27_ h31q h29 h30 (A4 h31 h31_ h30_ h31__);try simp [F19]
          and_intros <;> first | exact GK g | apply r | omega | (simp [maxLen,F19] <;> omega)
          refine WK [(2,AV.ptr 0 0),(7,AV.slc 1 0 1 ((v12.set (v17).toNat (IntKind.wrap .i64 (v18-1))).length) false),(8,AV.slc 2 0 1 v11.length false),(9,AV.slc 3 0 1 ((v13++([v17] : List Int)).length) false),(10,AV.map 4),(11,AV.ptr 5 0),(13,Iz v22),(16,Iz v26),(30,Iz v8),(31,Iz v9),(90,AV.slc 3 ((v22).toNat) 1 ((v13++([v17] : List Int)).length-((v22).toNat)) false),(91,Iz ((((v13++([v17] : List Int)).length-((v22).toNat)) : Nat) : Int)),(92,Iz v24)] [(0,.cells [Iz v0,Q1 v1]),(1,Gi (v12.set (v17).toNat (IntKind.wrap .i64 (v18-1)))),(2,.grow (List.map (sl (AV.int .i64)) v11)),(3,Gi (v13++([v17] : List Int))),(4,.mp (mpA (AV.int .i64) (AV.int .i64) v25)),(5,.cells [Iz v19.To])] 6 (by simp [F19] <;> omega) (by simp [F19]) ?_;refine RG [] [none,none,none,none,none,none,none,none] fun _ _ g r=>?_;obtain ⟨v27,h32,h33,h34,hF⟩:=Aad hF;have h34_:=Aas h34;try simp at h34_
          have h33_:=h33;try simp at h33_
          have F20:=A6 F19 h32 h33 h34 h34_ h33_;try simp [F20]
          and_intros <;> first | exact GK g | apply r | omega | (simp [maxLen,F20] <;> omega)
          refine hK97104 _ _ _ ?_;refine WK [(2,AV.ptr 0 0),(7,AV.slc 1 0 1 ((v12.set (v17).toNat (IntKind.wrap .i64 (v18-1))).length) false),(8,AV.slc 2 0 1 v11.length false),(9,AV.slc 3 0 1 ((v13++([v17] : List Int)).length) false),(10,AV.map 4),(11,AV.ptr 5 0),(13,Iz v22),(30,Iz v8),(31,Iz v9),(90,AV.slc 3 ((v22).toNat) 1 ((v13++([v17] : List Int)).length-((v22).toNat)) false),(91,Iz ((((v13++([v17] : List Int)).length-((v22).toNat)) : Nat) : Int)),(92,Iz v24)] [(0,.cells [Iz v0,Q1 v1]),(1,Gi (v12.set (v17).toNat (IntKind.wrap .i64 (v18-1)))),(2,.grow (List.map (sl (AV.int .i64)) v11)),(3,Gi (v13++([v17] : List Int))),(4,.mp (mpA (AV.int .i64) (AV.int .i64) (Aki v25 v27.To))),(5,.cells [Iz v19.To])] 6 (by simp [F20] <;> omega) (by simp [F20]) ?_;refine RG [] [none,none] fun _ _ g r=>?_;try simp [F20]
          and_intros <;> first | exact GK g | apply r | omega | (simp [maxLen,F20] <;> omega)
          refine hK97099 _ _ _ ?_;exact NX (k':=n6) ((IntKind.wrap .i64 (v24+1),Aki v25 v27.To)) hF (by simp [F20] <;> omega) (by simp [F20])
         ·replace hF:=Aaa h25 hF;have h25_:=h25;try simp at h25_
          have F21:=A3 F17 h25 h25_;refine CF (by simp [F21] <;> omega) ?_;refine AW.exit ?_;try simp
          refine hK97073 _ _ _ ?_;refine RG [] [none,none,none,none] fun _ _ g r=>?_;obtain ⟨⟨h35,h36,h37,h38⟩,hF⟩:=AaR hF;have h35n:=Ac6 h35;have h35t : (v13++([v17] : List Int)).take (v22).toNat≠[]:=Anv h35 (by omega);have h35m : min (v22).toNat (v13++([v17] : List Int)).length=(v22).toNat:=by omega
          have h35_:=h35;try simp at h35_
          have h36_:=h36;try simp at h36_
          have h37_:=h37;try simp at h37_
          have h38_:=h38;try simp at h38_
          have F22:=A9 F21 h35 h36 h37 h38 h35_ h36_ h37_ (A4 h38_ h35n h35t h35m);try simp [F22]
          and_intros <;> first | exact GK g | apply r | omega | (simp [maxLen,F22] <;> omega)
          refine hK97036 _ _ _ ?_;refine Can.weak [(2,AV.ptr 0 0),(7,AV.slc 1 0 1 ((v12.set (v17).toNat (IntKind.wrap .i64 (v18-1))).length) false),(8,AV.slc 2 0 1 v11.length false),(9,AV.slc 3 0 1 ((v22).toNat) false),(10,AV.map 4),(11,AV.ptr 5 0),(30,Iz v8),(31,Iz v9)] [(0,.cells [Iz v0,Q1 v1]),(1,Gi (v12.set (v17).toNat (IntKind.wrap .i64 (v18-1)))),(2,.grow (List.map (sl (AV.int .i64)) v11)),(3,Gi (v13++([v17] : List Int))),(4,.mp (mpA (AV.int .i64) (AV.int .i64) v25)),(5,.cells [Iz v19.To])] 6 (by simp [F22] <;> omega) (by simp [F22]) (by simp) ?_;refine Can.shr 3 ((v22).toNat) (F:=(AV.int .i64)) (L:=(v13++([v17] : List Int))) (by simp [F22]) h35t ?_;exact JN ((((v13++([v17] : List Int)).take ((v22).toNat)),v25)) hF (by simp [F22] <;> omega) (by simp [F22])
        ·replace hF:=Aaa h21 hF;have h21_:=h21;try simp at h21_
         have F23:=A3 F13 h21 h21_;refine CF (by simp [F23] <;> omega) ?_;refine AW.skip ?_;refine hK97036 _ _ _ ?_;exact JN ((v13++([v17] : List Int),v14)) hF (by simp [F23]) (by simp [F23])
      ·rintro ⟨v20,v21⟩ hF
       try dsimp only at hF
       unfold Aaf.J4 at hF;refine RG [] [none,none,none,none,none] fun _ _ g r=>?_;try simp [F13]
       and_intros <;> first | exact GK g | apply r | omega | (simp [maxLen,F13] <;> omega)
       refine hK96939 _ _ _ ?_;refine WK [(2,AV.ptr 0 0),(7,AV.slc 1 0 1 ((v12.set (v17).toNat (IntKind.wrap .i64 (v18-1))).length) false),(8,AV.slc 2 0 1 v11.length false),(9,AV.slc 3 0 1 v20.length false),(10,AV.map 4),(11,AV.ptr 5 0),(30,Iz v8),(31,Iz v9)] [(0,.cells [Iz v0,Q1 v1]),(1,Gi (v12.set (v17).toNat (IntKind.wrap .i64 (v18-1)))),(2,.grow (List.map (sl (AV.int .i64)) v11)),(3,Gi v20),(4,.mp (mpA (AV.int .i64) (AV.int .i64) (AbE v21 v19.To (v20.length : Int)))),(5,.cells [Iz v19.To])] 6 (by simp [F13]) (by simp [F13]) ?_;refine SW F13 [] [none] [11] [(111,Iz v19.To)] [5] [] 6 ?_;refine RG [] [none,none] fun _ _ g r=>?_;try simp [F13]
       and_intros <;> first | exact GK g | apply r | omega | (simp [maxLen,F13] <;> omega)
       refine hK96749 _ _ _ ?_;refine RN h0 [(0,0),(1,1),(2,2),(3,3),(4,4),(5,6)] [(2,AV.ptr 0 0),(7,AV.slc 1 0 1 ((v12.set (v17).toNat (IntKind.wrap .i64 (v18-1))).length) false),(8,AV.slc 2 0 1 v11.length false),(9,AV.slc 3 0 1 v20.length false),(10,AV.map 4),(11,AV.ptr 5 0),(30,Iz v8),(31,Iz v9)] [(0,.cells [Iz v0,Q1 v1]),(1,Gi (v12.set (v17).toNat (IntKind.wrap .i64 (v18-1)))),(2,.grow (List.map (sl (AV.int .i64)) v11)),(3,Gi v20),(4,.mp (mpA (AV.int .i64) (AV.int .i64) (AbE v21 v19.To (v20.length : Int)))),(5,.cells [Iz v19.To])] 6 (by simp [F13]) (by simp [F13]) ?_;exact NX (k':=n2) ((v12.set (v17).toNat (IntKind.wrap .i64 (v18-1)),v20,AbE v21 v19.To (v20.length : Int),v19.To)) hF (by simp [F13]) (by simp [F13])
    ·replace hF:=Aaa h8 hF;have h8q : v15=1:=Classical.not_not.1 h8;have h8_:=Abf h8q;have h8__:=Abe h8q;have F24:=A4 F5 h8_ h8__ h8q;refine CF (by simp [F24] <;> omega) ?_;refine AW.exit ?_;try simp
     refine hK95613 _ _ _ ?_;refine WK [(2,AV.ptr 0 0),(7,AV.slc 1 0 1 v12.length false),(8,AV.slc 2 0 1 v11.length false),(9,AV.slc 3 0 1 v13.length false),(30,Iz v8),(31,Iz v9)] [(0,.cells [Iz v0,Q1 v1]),(1,Gi v12),(2,.grow (List.map (sl (AV.int .i64)) v11)),(3,Gi v13)] 6 (by simp [F24]) (by simp [F24]) ?_;refine AW.frz 3 (o:=Gi v13) (by simp [F24]) rfl [(9,Lz v13)] [] ⟨(.l (by simp) (by simp) (by simp) (by simp)),trivial⟩ trivial ?_;refine WK [(2,AV.ptr 0 0),(7,AV.slc 1 0 1 v12.length false),(8,AV.slc 2 0 1 v11.length false),(9,Lz v13),(30,Iz v8),(31,Iz v9)] [(0,.cells [Iz v0,Q1 v1]),(1,Gi v12),(2,.grow (List.map (sl (AV.int .i64)) v11))] 6 (by simp [F24]) (by simp [F24]) ?_;refine RG [] [none,none,none,none,none,none] fun _ _ g r=>?_;try simp [F24]
     and_intros
     try any_goals first | omega | (simp [maxLen,F24] <;> omega)
     obtain ⟨v32,h52,hF⟩:=AaN hF;refine AC (AeA k _ _ h52) (.cons (.same (by simp [F24])) .nil) ?_;obtain ⟨h53,hF⟩:=AaR hF;have h53_:=h53;try simp at h53_
     have F25:=A2 F24 h53;try simp [F25]
     and_intros <;> first | exact GK g | apply r | omega | (simp [maxLen,F25] <;> omega)
     refine hK94096 _ _ _ ?_;refine WK [(2,AV.ptr 0 0),(7,AV.slc 1 0 1 v12.length false),(8,AV.slc 6 0 1 ((v11++([v32] : List (List Int))).length) false),(30,Iz v8),(31,Iz v9)] [(0,.cells [Iz v0,Q1 v1]),(1,Gi v12),(6,.grow (List.map (sl (AV.int .i64)) (v11++([v32] : List (List Int)))))] 7 (by simp [F25] <;> omega) (by simp [F25]) ?_;refine RG [] [none,none] fun _ _ g r=>?_;try simp [F25]
     and_intros <;> first | exact GK g | apply r | omega | (simp [maxLen,F25] <;> omega)
     refine hK91061 _ _ _ ?_;refine RN h0 [(0,0),(1,1),(2,6)] [(2,AV.ptr 0 0),(7,AV.slc 1 0 1 v12.length false),(8,AV.slc 2 0 1 ((v11++([v32] : List (List Int))).length) false),(30,Iz v8),(31,Iz (IntKind.wrap .i64 (v9+1)))] [(0,.cells [Iz v0,Q1 v1]),(1,Gi v12),(2,.grow (List.map (sl (AV.int .i64)) (v11++([v32] : List (List Int)))))] 3 (by simp [F25] <;> omega) (by simp [F25]) ?_;exact NX (k':=n1) ((IntKind.wrap .i64 (v9+1),v12,v11++([v32] : List (List Int)))) hF (by simp [F25]) (by simp [F25])
   ·replace hF:=Aaa h7 hF;have h7_:=h7;try simp at h7_
    have F26:=A3 F4 h7 h7_;refine CF (by simp [F26] <;> omega) ?_;refine AW.exit ?_;try simp
    refine hK72855 _ _ _ ?_;refine SQ [] [none,none,none] fun _ _ g r=>?_;try simp [F26]
    and_intros <;> first | exact GK g | apply r | omega | (simp [maxLen,F26] <;> omega)
    refine RM h0 [(0,2)] [(4,AV.slc 0 0 1 v11.length false),(5,Iz 0)] [(0,.grow (List.map (sl (AV.int .i64)) v11))] 1 (by simp [F26]) (by simp [F26]) ?_;simp only [Option.some.injEq,Prod.mk.injEq] at hF;obtain ⟨e0,e1⟩:=hF;subst e0 e1;refine AW.ret (hQ _ _ _ ?_ (AaJ ?_)).1
    ·simp [Try.f36,F26]
    ·simp [F26]
end Go.TF
