import Derived.Test.YtelffnegemdicaaPczWal30
import Derived.Test.YtelffnegemdicaaPczWal31
import Derived.Test.YtelffnegemdicaaPczWal32
set_option linter.unusedVariables false
set_option linter.unusedSimpArgs false
set_option maxRecDepth 100000
set_option maxHeartbeats 4000000
namespace Go.TF
open Go Go.Abs Go.Proofs Go.Proofs.YtelffnegemdicaaPcT
theorem AiF (k : Nat) (v0 : Int) (v1 : (List AaA)) (v2 : (List Int)) (v3 : Int) (v4 : Int) (v5 : Int) (v6 : (List (List Int))) (hF : Aa4 k v0 v1 v2 v3 v4 v5=some v6) :
 AbF Try.prog 52 [AV.agg [AV.int .i64 v0,Q0 v1,AV.lst false false (List.map (AV.int .i64) v2)],AV.int .i64 v3,AV.int .i64 v4,AV.int .i64 v5] [] (AV.slc 0 0 1 v6.length false) [some (.grow (List.map (sl (AV.int .i64)) v6))]:=by
 unfold Aa4 at hF;refine EN Try.func52 ?_;intro c0 w0 Q h0 hQ
 refine WK [(0,AV.agg [Iz v0,Q0 v1,Lz v2]),(1,Iz v3),(2,Iz v4),(3,Iz v5)] [] 0 (by simp) (by simp) ?_;refine SW trivial [] [none,none] [0] [(4,AV.ptr 0 0)] [] [(0,.cells [Iz v0,Q0 v1,Lz v2])] 1 ?_;refine AW.seq fun K2228 hK2228=>?_;obtain ⟨v7,h1,hF⟩:=AaN hF;refine CL trivial [] [none,none,none,none,none,none] (Ada k _ _ _ _ _ _ _ h1) [] [(26,AV.bool (!v7))] [] [] 1 ?_;by_cases h2 : (!v7)=true
 ·replace hF:=AaZ h2 hF;have h2_:=h2;try simp at h2_
  refine CT (by simp [h2,h2_] <;> omega) ?_;refine SW (A2 h2 h2_) [] [none] [1,2,3,4,26] [(8,AV.lst true true (List.map (sl (AV.int .i64)) ([] : List (List Int))))] [0] [] 1 ?_;refine AW.own' 8 1 true (by simp [h2,h2_]) (by decide) ?_;refine RM h0 [(0,1)] [(8,AV.slc 0 0 1 (([] : List (List Int)).length) false)] [(0,.grow (List.map (sl (AV.int .i64)) ([] : List (List Int))))] 1 (by simp [h2,h2_]) (by simp [h2,h2_]) ?_;simp only [Option.some.injEq] at hF;subst hF;refine AW.ret (hQ _ _ _ ?_ (AaJ ?_)).1
  ·simp [Try.f52,h2,h2_]
  ·simp [h2,h2_]
 ·replace hF:=Aaa h2 hF;have h2_:=h2;try simp at h2_
  refine CF (by simp [h2,h2_] <;> omega) ?_;refine AW.skip ?_;refine hK2228 _ _ _ ?_;obtain ⟨v8,v9,h3,hF⟩:=AbX hF;refine CL (A2 h2 h2_) [] [none,none,none,none,none,none,none] (Aeg k _ _ _ _ _ _ _ _ h3) [1,4,26] [(9,AV.ptr 2 0)] [0] [(1,.grow (AaM (List.map AaI.av v9))),(2,.cells [Iz v8,AV.slc 1 0 3 v9.length false])] 3 ?_;refine AW.frz 1 (o := .grow (AaM (List.map AaI.av v9))) (by simp [h2,h2_]) rfl [] [(2,.cells [Iz v8,Q1 v9])] trivial ⟨⟨by simp,Aau.cells [Iz v8,AV.slc 1 0 3 v9.length false],by simp [h2,h2_],(.mk (.cons (.same _) (.cons (.l (by simp) (by simp) (by simp) (by simp)) .nil)))⟩,trivial⟩ ?_;refine WK [(2,Iz v4),(3,Iz v5),(9,AV.ptr 2 0)] [(2,.cells [Iz v8,Q1 v9])] 3 (by simp [h2,h2_]) (by simp [h2,h2_]) ?_;obtain ⟨v10,v11,h4,hF⟩:=AbX hF;refine CL (A2 h2 h2_) [] [none,none,none,none,none,none,none] (Ahk k _ _ _ _ h4) [] [(10,AV.slc 3 0 1 v10.length false)] [] [(3,Gi v10)] 4 ?_;refine AW.frz 3 (o:=Gi v10) (by simp [h2,h2_]) rfl [(10,Lz v10)] [] ⟨(.l (by simp) (by simp) (by simp) (by simp)),trivial⟩ trivial ?_;refine WK [(2,Iz v4),(3,Iz v5),(9,AV.ptr 2 0),(10,Lz v10)] [(2,.cells [Iz v8,Q1 v9])] 4 (by simp [h2,h2_]) (by simp [h2,h2_]) ?_;obtain ⟨v12,v13,h5,hF⟩:=AbX hF;refine CL (A2 h2 h2_) [] [none,none,none,none,none,none,none,none] (Aiw k _ _ _ _ _ h5) [10] [(12,AV.slc 4 0 1 v12.length false)] [] [(4,.grow (List.map (sl (AV.int .i64)) v12))] 5 ?_;refine AW.frz 4 (o := .grow (List.map (sl (AV.int .i64)) v12)) (by simp [h2,h2_]) rfl [(12,AV.lst false false (List.map (sl (AV.int .i64)) v12))] [] ⟨(.l (by simp) (by simp) (by simp) (by simp)),trivial⟩ trivial ?_;refine WK [(2,Iz v4),(3,Iz v5),(9,AV.ptr 2 0),(12,AV.lst false false (List.map (sl (AV.int .i64)) v12))] [(2,.cells [Iz v8,Q1 v9])] 5 (by simp [h2,h2_]) (by simp [h2,h2_]) ?_;refine SW (A2 h2 h2_) [] [none] [] [(14,AV.lst true true (List.map (sl (AV.int .i64)) ([] : List (List Int))))] [] [] 5 ?_;refine AW.seq fun K3341 hK3341=>?_;refine SW (A2 h2 h2_) [] [none,none,none] [12] [(43,AV.lst false false (List.map (sl (AV.int .i64)) v12)),(44,Iz (v12.length : Int)),(45,Iz 0)] [] [] 5 ?_;refine AW.block ?_;refine AW.own' 14 1 true (by simp [h2,h2_]) (by decide) ?_;refine RM h0 [(0,2),(1,5)] [(2,Iz v4),(3,Iz v5),(9,AV.ptr 0 0),(14,AV.slc 1 0 1 (([] : List (List Int)).length) false),(43,AV.lst false false (List.map (sl (AV.int .i64)) v12)),(44,Iz (v12.length : Int)),(45,Iz 0)] [(0,.cells [Iz v8,Q1 v9]),(1,.grow (List.map (sl (AV.int .i64)) ([] : List (List Int))))] 2 (by simp [h2,h2_]) (by simp [h2,h2_]) ?_;refine AW.loopF (α:=(Int×(List (List Int)))) (fun n (v14,v15)=>Aa4.L1 k v4 v5 v9 v12 n v14 v15=some v6) (fun (v14,v15)=>[(2,Iz v4),(3,Iz v5),(9,AV.ptr 0 0),(14,AV.slc 1 0 1 v15.length false),(43,AV.lst false false (List.map (sl (AV.int .i64)) v12)),(44,Iz (v12.length : Int)),(45,Iz v14)]) (fun (v14,v15)=>[(0,.cells [Iz v8,Q1 v9]),(1,.grow (List.map (sl (AV.int .i64)) v15))]) 2 k ((0,([] : List (List Int)))) hF (by simp [h2,h2_]) (by simp [h2,h2_]) (by simp) ?_;rintro (_|n1) ⟨v14,v15⟩ hF K4171 hK4171
  ·try dsimp only at hF
   rw [Aa4.L1] at hF; cases hF
  try dsimp only at hF
  rw [Aa4.L1] at hF;refine SW (A2 h2 h2_) [] [none] [] [(46,AV.bool (decide (v14<(v12.length : Int))))] [] [] 2 ?_;refine AW.seq fun K4173 hK4173=>?_;by_cases h6 : v14<(v12.length : Int)
  ·replace hF:=AaZ h6 hF;have h6_:=h6;try simp at h6_
   have F1:=A4 h2 h2_ h6 h6_;refine CT (by simp [F1] <;> omega) ?_;refine AW.skip ?_;refine hK4173 _ _ _ ?_;refine AW.seq fun K4310 hK4310=>?_;refine AW.block ?_;refine SR [] [none,none,none] fun _ _ g r=>?_;obtain ⟨v16,h7,h8,h9,hF⟩:=Aad hF;have h9_:=Aas h9;try simp at h9_
   have h8_:=h8;try simp at h8_
   have F2:=A6 F1 h7 h8 h9 h9_ h8_;refine TL F2 g r [] [(16,Lz v16)] [] [] 2 ?_;refine SW F2 [50] [none,none,none] [] [(17,AV.slc 2 0 1 (([v4] : List Int).length) true)] [] [(2,Ci ([v4] : List Int))] 3 ?_;refine AW.seq fun K4379 hK4379=>?_;refine SW F2 [] [none,none,none] [16] [(51,Lz v16),(52,Iz (v16.length : Int)),(53,Iz 0)] [] [] 3 ?_;refine AW.block ?_;refine AW.flg [(17,AV.slc 2 0 1 (([v4] : List Int).length) false)] [] ⟨.slc,trivial⟩ trivial (by simp) ?_;refine AW.loopF (α:=(Int×(List Int))) (fun n (v17,v18)=>Aa4.L2 k v5 v9 v14 v15 v16 (fun v14_ v15_=>Aa4.L1 k v4 v5 v9 v12 n1 v14_ v15_) n v17 v18=some v6) (fun (v17,v18)=>[(2,Iz v4),(3,Iz v5),(9,AV.ptr 0 0),(14,AV.slc 1 0 1 v15.length false),(17,AV.slc 2 0 1 v18.length false),(43,AV.lst false false (List.map (sl (AV.int .i64)) v12)),(44,Iz (v12.length : Int)),(45,Iz v14),(51,Lz v16),(52,Iz (v16.length : Int)),(53,Iz v17)]) (fun (v17,v18)=>[(0,.cells [Iz v8,Q1 v9]),(1,.grow (List.map (sl (AV.int .i64)) v15)),(2,Ci v18)]) 3 k ((0,([v4] : List Int))) hF (by simp [F2]) (by simp [F2]) (by simp) ?_;rintro (_|n2) ⟨v17,v18⟩ hF K4429 hK4429
   ·try dsimp only at hF
    rw [Aa4.L2] at hF; cases hF
   try dsimp only at hF
   rw [Aa4.L2] at hF;refine SW F2 [] [none] [] [(54,AV.bool (decide (v17<(v16.length : Int))))] [] [] 3 ?_;refine AW.seq fun K4431 hK4431=>?_;by_cases h10 : v17<(v16.length : Int)
   ·replace hF:=AaZ h10 hF;have h10_:=h10;try simp at h10_
    have F3:=A3 F2 h10 h10_;refine CT (by simp [F3] <;> omega) ?_;refine AW.skip ?_;refine hK4431 _ _ _ ?_;refine AW.midF (α:=(List Int)) (fun v19=>Aa4.J3 k v17 (fun v17_ v18_=>Aa4.L2 k v5 v9 v14 v15 v16 (fun v14_ v15_=>Aa4.L1 k v4 v5 v9 v12 n1 v14_ v15_) n2 v17_ v18_) v19=some v6) (fun v19=>[(2,Iz v4),(3,Iz v5),(9,AV.ptr 0 0),(14,AV.slc 1 0 1 v15.length false),(17,AV.slc 2 0 1 v19.length false),(43,AV.lst false false (List.map (sl (AV.int .i64)) v12)),(44,Iz (v12.length : Int)),(45,Iz v14),(51,Lz v16),(52,Iz (v16.length : Int)),(53,Iz v17)]) (fun v19=>[(0,.cells [Iz v8,Q1 v9]),(1,.grow (List.map (sl (AV.int .i64)) v15)),(2,Ci v19)]) 3 (fun K4439 hK4439=>?_) ?_
    ·refine AW.block ?_;refine SR [] [none,none,none] fun _ _ g r=>?_;obtain ⟨v20,h11,h12,h13,hF⟩:=Aad hF;have h13_:=Aas h13;try simp at h13_
     have h12_:=h12;try simp at h12_
     have F4:=A6 F3 h11 h12 h13 h13_ h12_;refine TL F4 g r [] [(19,Iz v20)] [] [] 3 ?_;refine SR [] [none,none,none,none,none,none,none] fun _ _ g r=>?_;obtain ⟨v21,h14,h15,h16,hF⟩:=Aad hF;have h16_:=Aas h16;try simp at h16_
     have h15_:=h15;try simp at h15_
     have F5:=A6 F4 h14 h15 h16 h16_ h15_;refine TL F5 g r [19] [(20,Iz v21.To)] [] [] 3 ?_;refine AW.block ?_;refine SW F5 [] [none,none,none] [] [(63,AV.bool (v21.To==1))] [] [] 3 ?_;by_cases h17 : v21.To=1
     ·replace hF:=AaZ h17 hF;have h17q : v21.To=1:=h17;have h17_:=Abf h17q;have h17__:=Abe h17q;refine CT (by simp [F5,h17_,h17__,h17q] <;> omega) ?_;refine RG [] [none,none,none,none,none] fun _ _ g r=>?_;obtain ⟨h18,hF⟩:=AaR hF;have h18_:=h18;try simp at h18_
      have F6:=A5 F5 h17_ h17__ h17q h18;try simp [F6]
      and_intros <;> first | exact GK g | apply r | omega | (simp [maxLen,F6] <;> omega)
      refine hK4439 _ _ _ ?_;refine RN h0 [(0,0),(1,1),(2,3)] [(2,Iz v4),(3,Iz v5),(9,AV.ptr 0 0),(14,AV.slc 1 0 1 v15.length false),(17,AV.slc 2 0 1 ((v18++([v5] : List Int)).length) false),(43,AV.lst false false (List.map (sl (AV.int .i64)) v12)),(44,Iz (v12.length : Int)),(45,Iz v14),(51,Lz v16),(52,Iz (v16.length : Int)),(53,Iz v17)] [(0,.cells [Iz v8,Q1 v9]),(1,.grow (List.map (sl (AV.int .i64)) v15)),(2,Ci (v18++([v5] : List Int)))] 3 (by simp [F6] <;> omega) (by simp [F6]) ?_;exact JN (v18++([v5] : List Int)) hF (by simp [F6]) (by simp [F6])
     ·replace hF:=Aaa h17 hF;have h17_:=AbY h17;have h17__:=Abc h17;have F7:=A4 F5 h17 h17_ h17__;refine CF (by simp [F7] <;> omega) ?_;refine SW F7 [] [none,none,none,none] [63] [(70,AV.bool ((Int.tmod v21.To 2)==0))] [] [] 3 ?_;by_cases h19 : (Int.tmod v21.To 2)=0
      ·replace hF:=AaZ h19 hF;have h19q : (Int.tmod v21.To 2)=0:=h19;have h19_:=Abf h19q;have h19__:=Abe h19q;refine CT (by simp [F7,h19_,h19__,h19q] <;> omega) ?_;refine RG [] [none,none,none,none,none,none,none] fun _ _ g r=>?_;obtain ⟨h20,hF⟩:=AaR hF;have h20_:=h20;try simp at h20_
       have F8:=A5 F7 h19_ h19__ h19q h20;try simp [F8]
       and_intros <;> first | exact GK g | apply r | omega | (simp [maxLen,F8] <;> omega)
       refine hK4439 _ _ _ ?_;refine RN h0 [(0,0),(1,1),(2,3)] [(2,Iz v4),(3,Iz v5),(9,AV.ptr 0 0),(14,AV.slc 1 0 1 v15.length false),(17,AV.slc 2 0 1 ((v18++([IntKind.wrap .i64 (Int.tdiv (IntKind.wrap .i64 (v21.To-2)) 2)] : List Int)).length) false),(43,AV.lst false false (List.map (sl (AV.int .i64)) v12)),(44,Iz (v12.length : Int)),(45,Iz v14),(51,Lz v16),(52,Iz (v16.length : Int)),(53,Iz v17)] [(0,.cells [Iz v8,Q1 v9]),(1,.grow (List.map (sl (AV.int .i64)) v15)),(2,Ci (v18++([IntKind.wrap .i64 (Int.tdiv (IntKind.wrap .i64 (v21.To-2)) 2)] : List Int)))] 3 (by simp [F8] <;> omega) (by simp [F8]) ?_;exact JN (v18++([IntKind.wrap .i64 (Int.tdiv (IntKind.wrap .i64 (v21.To-2)) 2)] : List Int)) hF (by simp [F8]) (by simp [F8])
      ·replace hF:=Aaa h19 hF;have h19_:=AbY h19;have h19__:=Abc h19;have F9:=A4 F7 h19 h19_ h19__;refine CF (by simp [F9] <;> omega) ?_;refine AW.skip ?_;refine hK4439 _ _ _ ?_;exact JN (v18) hF (by simp [F9]) (by simp [F9])
    ·rintro v19 hF
     try dsimp only at hF
     unfold Aa4.J3 at hF;refine RG [] [none,none] fun _ _ g r=>?_;try simp [F3]
     and_intros <;> first | exact GK g | apply r | omega | (simp [maxLen,F3] <;> omega)
     refine hK4429 _ _ _ ?_;exact NX (k':=n2) ((IntKind.wrap .i64 (v17+1),v19)) hF (by simp [F3]) (by simp [F3])
   ·replace hF:=Aaa h10 hF;have h10_:=h10;try simp at h10_
    have F10:=A3 F2 h10 h10_;refine CF (by simp [F10] <;> omega) ?_;refine AW.exit ?_;try simp
    refine hK4379 _ _ _ ?_;refine WK [(2,Iz v4),(3,Iz v5),(9,AV.ptr 0 0),(14,AV.slc 1 0 1 v15.length false),(17,AV.slc 2 0 1 v18.length false),(43,AV.lst false false (List.map (sl (AV.int .i64)) v12)),(44,Iz (v12.length : Int)),(45,Iz v14)] [(0,.cells [Iz v8,Q1 v9]),(1,.grow (List.map (sl (AV.int .i64)) v15)),(2,Ci v18)] 3 (by simp [F10]) (by simp [F10]) ?_;refine AW.frz 2 (o:=Ci v18) (by simp [F10]) rfl [(17,Lz v18)] [] ⟨(.l (by simp) (by simp) (by simp) (by simp)),trivial⟩ trivial ?_;refine WK [(2,Iz v4),(3,Iz v5),(9,AV.ptr 0 0),(14,AV.slc 1 0 1 v15.length false),(17,Lz v18),(43,AV.lst false false (List.map (sl (AV.int .i64)) v12)),(44,Iz (v12.length : Int)),(45,Iz v14)] [(0,.cells [Iz v8,Q1 v9]),(1,.grow (List.map (sl (AV.int .i64)) v15))] 3 (by simp [F10]) (by simp [F10]) ?_;refine RG [] [none,none,none,none,none] fun _ _ g r=>?_;obtain ⟨h21,hF⟩:=AaR hF;have h21_:=h21;try simp at h21_
    have F11:=A2 F10 h21;try simp [F11]
    and_intros <;> first | exact GK g | apply r | omega | (simp [maxLen,F11] <;> omega)
    refine hK4310 _ _ _ ?_;refine WK [(2,Iz v4),(3,Iz v5),(9,AV.ptr 0 0),(14,AV.slc 3 0 1 ((v15++([v18] : List (List Int))).length) false),(43,AV.lst false false (List.map (sl (AV.int .i64)) v12)),(44,Iz (v12.length : Int)),(45,Iz v14)] [(0,.cells [Iz v8,Q1 v9]),(3,.grow (List.map (sl (AV.int .i64)) (v15++([v18] : List (List Int)))))] 4 (by simp [F11] <;> omega) (by simp [F11]) ?_;refine RG [] [none,none] fun _ _ g r=>?_;try simp [F11]
    and_intros <;> first | exact GK g | apply r | omega | (simp [maxLen,F11] <;> omega)
    refine hK4171 _ _ _ ?_;refine RN h0 [(0,0),(1,3)] [(2,Iz v4),(3,Iz v5),(9,AV.ptr 0 0),(14,AV.slc 1 0 1 ((v15++([v18] : List (List Int))).length) false),(43,AV.lst false false (List.map (sl (AV.int .i64)) v12)),(44,Iz (v12.length : Int)),(45,Iz (IntKind.wrap .i64 (v14+1)))] [(0,.cells [Iz v8,Q1 v9]),(1,.grow (List.map (sl (AV.int .i64)) (v15++([v18] : List (List Int)))))] 2 (by simp [F11] <;> omega) (by simp [F11]) ?_;exact NX (k':=n1) ((IntKind.wrap .i64 (v14+1),v15++([v18] : List (List Int)))) hF (by simp [F11]) (by simp [F11])
  ·replace hF:=Aaa h6 hF;have h6_:=h6;try simp at h6_
   have F12:=A4 h2 h2_ h6 h6_;refine CF (by simp [F12] <;> omega) ?_;refine AW.exit ?_;try simp
   refine hK3341 _ _ _ ?_;refine SQ [] [none,none] fun _ _ g r=>?_;try simp [F12]
   and_intros <;> first | exact GK g | apply r | omega | (simp [maxLen,F12] <;> omega)
   refine RM h0 [(0,1)] [(8,AV.slc 0 0 1 v15.length false)] [(0,.grow (List.map (sl (AV.int .i64)) v15))] 1 (by simp [F12]) (by simp [F12]) ?_;simp only [Option.some.injEq] at hF;subst hF;refine AW.ret (hQ _ _ _ ?_ (AaJ ?_)).1
   ·simp [Try.f52,F12]
   ·simp [F12]
theorem AdD (k : Nat) (v0 : (List AaA)) (v1 : (List AaA)) (hF : Abb k v0=some v1) :
 AbF Try.prog 102 [Q0 v0] [] (AV.slc 0 0 3 v1.length false) [some (.grow (AaM (List.map AaA.av v1)))]:=by
 unfold Abb at hF;obtain ⟨h1,hF⟩:=AaR hF;simp only [Option.some.injEq] at hF;subst hF;refine EN Try.func102 ?_;intro c0 w0 Q h0 hQ
 refine WK [(0,Q0 v0)] [] 0 (by simp) (by simp) ?_;refine SQ [] [none] fun _ _ g r=>?_;simp
 refine ⟨g _ (by kernel_rfl),r _ _ _ ?_⟩;refine WK [(0,Q0 v0)] [] 0 (by simp) (by simp) ?_;refine AW.nilSplit (fl:=false) (xs:=List.map AaA.av v0) 0 (by decide) (by simp) (fun hx=>?_) ?_
 ·simp at hx
  subst hx;refine WK [(0,AV.lst true false [])] [] 0 (by simp) (by simp) ?_;refine AW.seq fun K2 hK2=>?_;refine SQ [] [none,none] fun _ _ g r=>?_;simp
  refine ⟨g _ (by kernel_rfl),r _ _ _ ?_⟩;refine WK [(4,AV.bool true)] [] 0 (by simp) (by simp) ?_;refine CT (by simp) ?_;refine SQ [] [none] fun _ _ g r=>?_;simp
  refine ⟨g _ (by kernel_rfl),r _ _ _ ?_⟩;refine WK [(2,AV.lst true true [])] [] 0 (by simp) (by simp) ?_;refine AW.own' 2 3 true (by simp) (by decide) ?_;refine AW.ret (hQ _ _ _ ?_ (AaJ ?_)).1
  ·simp [Try.f102]
  ·simp
 ·refine WK [(0,AV.nn (Q0 v0))] [] 0 (by simp) (by simp) ?_;refine AW.seq fun K2 hK2=>?_;refine SQ [] [none,none] fun _ _ g r=>?_;simp
  refine ⟨g _ (by kernel_rfl),r _ _ _ ?_⟩;refine WK [(0,AV.nn (Q0 v0)),(4,AV.bool false)] [] 0 (by simp) (by simp) ?_;refine AW.flg [(0,Q0 v0)] [] ⟨.nn,trivial⟩ trivial (by decide) ?_;refine WK [(0,Q0 v0),(4,AV.bool false)] [] 0 (by simp) (by simp) ?_;refine CF (by simp) ?_;refine AW.skip ?_;refine hK2 _ _ _ ?_;refine SQ [7] [none,none,none,none] fun _ _ g r=>?_;simp
  and_intros <;> first | exact GK g | apply r | omega | (unfold maxLen; omega)
  refine WK [(2,AV.slc 0 0 3 v0.length false)] [(0,.grow (AaM (List.map AaA.av v0)))] 1 (by simp) (by simp) ?_;refine AW.ret (hQ _ _ _ ?_ (AaJ ?_)).1
  ·simp [Try.f102]
  ·simp
theorem Agg (k : Nat) (v0 : Int) (v1 : (List AaA)) (v2 : (List Int)) (v3 : Int) (v4 : (List AaA)) (v5 : (List Int)) (hF : AdM k v0 v1 v2=some (v3,v4,v5)) :
 AbF Try.prog 75 [AV.agg [AV.int .i64 v0,Q0 v1,AV.lst false false (List.map (AV.int .i64) v2)]] [] (AV.agg [AV.int .i64 v3,AV.slc 0 0 3 v4.length false,AV.slc 1 0 1 v5.length false]) [some (.grow (AaM (List.map AaA.av v4))),some (Gi v5)]:=by
 unfold AdM at hF;refine EN Try.func75 ?_;intro c0 w0 Q h0 hQ
 refine WK [(0,AV.agg [Iz v0,Q0 v1,Lz v2])] [] 0 (by simp) (by simp) ?_;refine SW trivial [] [none,none] [0] [(1,AV.ptr 0 0),(2,AV.ptr 1 0)] [] [(0,.cells [Iz v0,Q0 v1,Lz v2]),(1,.cells [Iz 0,AV.lst true true (List.map AaA.av ([] : List AaA)),AV.lst true true (List.map (AV.int .i64) ([] : List Int))])] 2 ?_;refine SQ [] [none,none,none,none,none,none,none,none,none,none] fun _ _ g r=>?_;try simp
 and_intros
 try any_goals first | omega | (simp [maxLen] <;> omega)
 obtain ⟨v6,h1,hF⟩:=AaN hF;refine AC (AdD k _ _ h1) (.cons (.same (by simp)) .nil) ?_;try simp
 and_intros
 try any_goals first | omega | (simp [maxLen] <;> omega)
 obtain ⟨v7,h2,hF⟩:=AaN hF;refine AC (AcR k _ _ h2) (.cons (.same (by simp)) .nil) ?_;try simp
 and_intros <;> first | exact GK g | apply r | omega | (simp [maxLen] <;> omega)
 refine RM h0 [(0,2),(1,3),(2,1)] [(2,AV.ptr 2 0)] [(0,.grow (AaM (List.map AaA.av v6))),(1,Gi v7),(2,.cells [Iz v0,AV.slc 0 0 3 v6.length false,AV.slc 1 0 1 v7.length false])] 3 (by simp) (by simp) ?_;simp only [Option.some.injEq,Prod.mk.injEq] at hF;obtain ⟨e0,e1,e2⟩:=hF;subst e0 e1 e2;refine AW.ret (hQ _ _ _ ?_ (AaJ ?_)).1
 ·simp [Try.f75]
 ·simp
theorem Aei (k : Nat) (v0 : Int) (v1 : Int) (v2 : Int) (v3 : Int) (v4 : Bool) (hF : Acd k v0 v1 v2 v3=some v4) :
 AbF Try.prog 77 [AV.agg [AV.int .i64 v0,AV.int .i64 v1,AV.int .i64 v2],AV.ptr 0 0] [.cells [AV.int .i64 v3]] (AV.bool v4) [some (.cells [AV.int .i64 v3])]:=by
 unfold Acd at hF;refine EN Try.func77 ?_;intro c0 w0 Q h0 hQ
 refine WK [(0,AV.agg [Iz v0,Iz v1,Iz v2]),(1,AV.ptr 0 0)] [(0,.cells [Iz v3])] 1 (by simp) (by simp) ?_;refine SW trivial [] [none,none] [0] [(2,AV.ptr 1 0)] [] [(1,.cells [Iz v0,Iz v1,Iz v2])] 2 ?_;refine SW trivial [] [none,none,none,none,none] [1,2] [(3,AV.bool (decide (v2<v3)))] [1] [] 2 ?_;simp only [Option.some.injEq] at hF;subst hF;refine AW.ret (hQ _ _ _ ?_ (AaJ ?_)).1
 ·simp [Try.f77]
 ·simp
theorem AcE (k : Nat) (v0 : (List AaA)) (v1 : Int) (v2 : Int) (hF : AaV k v0 v1=some v2) :
 AbF Try.prog 103 [Q0 v0,AV.fn 77 [AV.ptr 0 0]] [.cells [AV.int .i64 v1]] (AV.int .i64 v2) [some (.cells [AV.int .i64 v1])]:=by
 unfold AaV at hF;refine EN Try.func103 ?_;intro c0 w0 Q h0 hQ
 refine WK [(0,Q0 v0),(1,AV.fn 77 [AV.ptr 0 0])] [(0,.cells [Iz v1])] 1 (by simp) (by simp) ?_;refine SW trivial [] [none] [] [] [] [] 1 ?_;refine AW.seq fun K131 hK131=>?_;refine SW trivial [] [none,none,none] [] [(7,Iz (v0.length : Int)),(8,Iz 0)] [] [] 1 ?_;refine AW.block ?_;refine AW.loopF (α:=Int) (fun n v3=>AaV.L1 k v0 v1 n v3=some v2) (fun v3=>[(0,Q0 v0),(1,AV.fn 77 [AV.ptr 0 0]),(7,Iz (v0.length : Int)),(8,Iz v3)]) (fun v3=>[(0,.cells [Iz v1])]) 1 k (0) hF (by simp) (by simp) (by simp) ?_;rintro (_|n1) v3 hF K163 hK163
 ·try dsimp only at hF
  rw [AaV.L1] at hF; cases hF
 try dsimp only at hF
 rw [AaV.L1] at hF;refine SW trivial [] [none] [] [(9,AV.bool (decide (v3<(v0.length : Int))))] [] [] 1 ?_;refine AW.seq fun K165 hK165=>?_;by_cases h1 : v3<(v0.length : Int)
 ·replace hF:=AaZ h1 hF;have h1_:=h1;try simp at h1_
  refine CT (by simp [h1,h1_] <;> omega) ?_;refine AW.skip ?_;refine hK165 _ _ _ ?_;refine AW.seq fun K169 hK169=>?_;refine AW.block ?_;refine SW (A2 h1 h1_) [] [none,none] [] [(5,Iz v3)] [] [] 1 ?_;refine SR [] [none,none,none,none,none,none] fun _ _ g r=>?_;obtain ⟨v4,h2,h3,h4,hF⟩:=Aad hF;have h4_:=Aas h4;try simp at h4_
  have h3_:=h3;try simp at h3_
  have F1:=A7 h1 h1_ h2 h3 h4 h4_ h3_;try simp [F1]
  and_intros
  try any_goals first | omega | (simp [maxLen,F1] <;> omega)
  obtain ⟨v5,h5,hF⟩:=AaN hF;refine AbA (Aei k _ _ _ _ _ h5) (by simp) [0] [] [] rfl (.cons (.same (by simp [F1])) (.cons (.same (by simp [F1])) .nil)) (by simp [F1]) (by decide) (by simp) (by simp) (.inl rfl) (by simp) (by simp) ?_;refine TL F1 g r [] [(16,AV.bool v5)] [] [] 1 ?_;by_cases h6 : v5=true
  ·replace hF:=AaZ h6 hF;have h6_:=h6;try simp at h6_
   have F2:=A3 F1 h6 h6_;refine CT (by simp [F2] <;> omega) ?_;refine SW F2 [] [none,none] [0,1,5,7,8,16] [(4,Iz v3)] [] [] 1 ?_;simp only [Option.some.injEq] at hF;subst hF;refine AW.ret (hQ _ _ _ ?_ (AaJ ?_)).1
   ·simp [Try.f103,F2]
   ·simp [F2]
  ·replace hF:=Aaa h6 hF;have h6_:=h6;try simp at h6_
   have F3:=A3 F1 h6 h6_;refine CF (by simp [F3] <;> omega) ?_;refine AW.skip ?_;refine hK169 _ _ _ ?_;refine RG [] [none,none] fun _ _ g r=>?_;try simp [F3]
   and_intros <;> first | exact GK g | apply r | omega | (simp [maxLen,F3] <;> omega)
   refine hK163 _ _ _ ?_;exact NX (k':=n1) (IntKind.wrap .i64 (v3+1)) hF (by simp [F3]) (by simp [F3])
 ·replace hF:=Aaa h1 hF;have h1_:=h1;try simp at h1_
  refine CF (by simp [h1,h1_] <;> omega) ?_;refine AW.exit ?_;try simp
  refine hK131 _ _ _ ?_;refine SW (A2 h1 h1_) [] [none] [0,1,7,8] [(4,Iz (-1))] [] [] 1 ?_;simp only [Option.some.injEq] at hF;subst hF;refine AW.ret (hQ _ _ _ ?_ (AaJ ?_)).1
  ·simp [Try.f103,h1,h1_]
  ·simp [h1,h1_]
theorem Ab7 (k : Nat) (v0 : (List AaA)) (v1 : Int) (v2 : (List AaA)) (hF : AaK k v0 v1=some v2) :
 AbF Try.prog 76 [AV.slc 0 0 3 v0.length false,AV.fn 77 [AV.ptr 1 0]] [.grow (AaM (List.map AaA.av v0)),.cells [AV.int .i64 v1]] (Q0 v2) [none,some (.cells [AV.int .i64 v1])]:=by
 unfold AaK at hF;refine EN Try.func76 ?_;intro c0 w0 Q h0 hQ
 refine WK [(0,AV.slc 0 0 3 v0.length false),(1,AV.fn 77 [AV.ptr 1 0])] [(0,.grow (AaM (List.map AaA.av v0))),(1,.cells [Iz v1])] 2 (by simp) (by simp) ?_;refine SW trivial [] [none] [] [] [] [] 2 ?_;refine SR [] [none,none,none,none] fun _ _ g r=>?_;try simp
 and_intros
 try any_goals first | omega | (simp [maxLen] <;> omega)
 obtain ⟨v3,h1,hF⟩:=AaN hF;refine AbA (AcE k _ _ _ h1) (by simp) [1] [0] [] rfl (.cons (Coe.l (o := .grow (AaM (List.map AaA.av v0))) (by simp) rfl (by simp) (by simp [Ac5]) (by simp) (by simp)) (.cons (.same (by simp)) .nil)) (by simp) (by decide) (by simp) (by simp) (.inr ⟨by simp,by simp⟩) (by simp) (by simp) ?_;refine TL trivial g r [] [(5,Iz v3)] [] [] 2 ?_;refine AW.seq fun K123 hK123=>?_;refine SW trivial [] [none,none] [] [(12,AV.bool (v3==(-1)))] [] [] 2 ?_;by_cases h2 : v3=(-1)
 ·replace hF:=AaZ h2 hF;have h2q : v3=(-1):=h2;have h2_:=Abf h2q;have h2__:=Abe h2q;have F1:=A3 h2_ h2__ h2q;refine CT (by simp [F1] <;> omega) ?_;refine SW F1 [] [none,none] [0,1,5,12] [(4,AV.slc 0 0 3 v0.length false)] [] [] 2 ?_;refine WK [(4,AV.slc 0 0 3 v0.length false)] [(0,.grow (AaM (List.map AaA.av v0))),(1,.cells [Iz v1])] 2 (by simp [F1]) (by simp [F1]) ?_;refine AW.frz 0 (o := .grow (AaM (List.map AaA.av v0))) (by simp [F1]) rfl [(4,Q0 v0)] [] ⟨(.l (by simp) (by simp) (by simp) (by simp)),trivial⟩ trivial ?_;simp only [Option.some.injEq] at hF;subst hF;refine AW.ret (hQ _ _ _ ?_ (AaJ ?_)).1
  ·simp [Try.f76,F1]
  ·simp [F1]
 ·replace hF:=Aaa h2 hF;have h2_:=AbY h2;have h2__:=Abc h2;have F2:=A3 h2 h2_ h2__;refine CF (by simp [F2] <;> omega) ?_;refine AW.skip ?_;refine hK123 _ _ _ ?_;refine AW.seq fun K180 hK180=>?_;refine SW F2 [] [none,none,none] [12] [(6,Iz (IntKind.wrap .i64 (v3+1)))] [] [] 2 ?_;refine AW.block ?_;refine AW.loopF (α:=(Int×Int×(List AaA))) (fun n (v4,v5,v6)=>AaK.L1 k v1 n v4 v5 v6=some v2) (fun (v4,v5,v6)=>[(0,AV.slc 0 0 3 v6.length false),(1,AV.fn 77 [AV.ptr 1 0]),(5,Iz v4),(6,Iz v5)]) (fun (v4,v5,v6)=>[(0,.grow (AaM (List.map AaA.av v6))),(1,.cells [Iz v1])]) 2 k ((v3,IntKind.wrap .i64 (v3+1),v0)) hF (by simp [F2]) (by simp [F2]) (by simp) ?_;rintro (_|n1) ⟨v4,v5,v6⟩ hF K221 hK221
  ·try dsimp only at hF
   rw [AaK.L1] at hF; cases hF
  try dsimp only at hF
  rw [AaK.L1] at hF;refine AW.seq fun K223 hK223=>?_;refine SW F2 [] [none,none,none,none] [] [(19,AV.bool (decide (v5<(v6.length : Int))))] [] [] 2 ?_;by_cases h3 : v5<(v6.length : Int)
  ·replace hF:=AaZ h3 hF;have h3_:=h3;try simp at h3_
   have F3:=A3 F2 h3 h3_;refine CT (by simp [F3] <;> omega) ?_;refine AW.skip ?_;refine hK223 _ _ _ ?_;refine AW.midF (α:=((List AaA)×Int)) (fun (v7,v8)=>AaK.J2 k v5 (fun v4_ v5_ v6_=>AaK.L1 k v1 n1 v4_ v5_ v6_) v7 v8=some v2) (fun (v7,v8)=>[(0,AV.slc 0 0 3 v7.length false),(1,AV.fn 77 [AV.ptr 1 0]),(5,Iz v8),(6,Iz v5)]) (fun (v7,v8)=>[(0,.grow (AaM (List.map AaA.av v7))),(1,.cells [Iz v1])]) 2 (fun K230 hK230=>?_) ?_
   ·refine AW.block ?_;refine SR [] [none,none,none,none,none,none] fun _ _ g r=>?_;obtain ⟨v9,h4,h5,h6,hF⟩:=Aad hF;have h6_:=Aas h6;try simp at h6_
    have h5_:=h5;try simp at h5_
    have h7:=AgY (F:=AaA.av) (es:=3) (fun _=>rfl) (by decide) h5;have h8:=Ace (F:=AaA.av) (es:=3) (fun _=>rfl) v6;have h9:=Ahy (F:=AaA.av) (es:=3) (fun _=>rfl) h6 0 (by decide);try simp only [Nat.add_zero] at h9
    have F4:=A9 F3 h4 h5 h6 h6_ h5_ h7 h8 h9;refine TL F4 g r [] [(7,AV.ptr 2 0)] [] [(2,.cells [Iz v9.From,Iz v9.To,Iz v9.Level])] 3 ?_;refine SR [] [none,none,none,none] fun _ _ g r=>?_;try simp [F4]
    and_intros
    try any_goals first | omega | (simp [maxLen,F4] <;> omega)
    obtain ⟨v10,h10,hF⟩:=AaN hF;refine AbA (Aei k _ _ _ _ _ h10) (by simp) [1] [] [] rfl (.cons (.same (by simp [F4])) (.cons (.same (by simp [F4])) .nil)) (by simp [F4]) (by decide) (by simp) (by simp) (.inl rfl) (by simp) (by simp) ?_;refine TL F4 g r [] [(29,AV.bool (!v10))] [] [] 3 ?_;by_cases h11 : (!v10)=true
    ·replace hF:=AaZ h11 hF;have h11_:=h11;try simp at h11_
     have F5:=A3 F4 h11 h11_;refine CT (by simp [F5] <;> omega) ?_;refine SR [] [none,none,none,none,none] fun _ _ g r=>?_;obtain ⟨v11,h12,h13,h14,hF⟩:=Aad hF;have h14_:=Aas h14;try simp at h14_
     have h13_:=h13;try simp at h13_
     have h15:=AgY (F:=AaA.av) (es:=3) (fun _=>rfl) (by decide) h13;have h16:=Ace (F:=AaA.av) (es:=3) (fun _=>rfl) v6;have h17:=Ahy (F:=AaA.av) (es:=3) (fun _=>rfl) h14 0 (by decide);try simp only [Nat.add_zero] at h17
     have h18:=Am2 (F:=AaA.av) (es:=3) (x':=v9) (d:=0) (zs:=[Iz v9.From,Iz v9.To,Iz v9.Level]) (fun _=>rfl) h14 (by simp) (by simp);try simp only [Nat.add_zero] at h18
     have h18_:=h18;try simp at h18_
     have h19:=AlW (x':=v9) h14;have F6:=A9 F5 h12 h13 h14 h14_ h13_ h15 h16 (A4 h17 h18 h18_ h19);refine TL F6 g r [0,7,29] [(0,AV.slc 0 0 3 ((v6.set (v4).toNat v9).length) false)] [0,2] [(0,.grow (AaM (List.map AaA.av (v6.set (v4).toNat v9))))] 3 ?_;refine RG [] [none,none,none] fun _ _ g r=>?_;try simp [F6]
     and_intros <;> first | exact GK g | apply r | omega | (simp [maxLen,F6] <;> omega)
     refine hK230 _ _ _ ?_;refine Can.weak [(0,AV.slc 0 0 3 ((v6.set (v4).toNat v9).length) false),(1,AV.fn 77 [AV.ptr 1 0]),(5,Iz (IntKind.wrap .i64 (v4+1))),(6,Iz v5)] [(0,.grow (AaM (List.map AaA.av (v6.set (v4).toNat v9)))),(1,.cells [Iz v1])] 3 (by simp [F6]) (by simp [F6]) (by simp) ?_;refine Can.ren (m:=2) h0 [(0,0),(1,1)] [(0,AV.slc 0 0 3 ((v6.set (v4).toNat v9).length) false),(1,AV.fn 77 [AV.ptr 1 0]),(5,Iz (IntKind.wrap .i64 (v4+1))),(6,Iz v5)] [(0,.grow (AaM (List.map AaA.av (v6.set (v4).toNat v9)))),(1,.cells [Iz v1])] 2 (by decide) (by decide) (by decide) rfl (by simp [F6]) (by simp [F6]) ?_;exact JN ((v6.set (v4).toNat v9,IntKind.wrap .i64 (v4+1))) hF (by simp [F6]) (by simp [F6])
    ·replace hF:=Aaa h11 hF;have h11_:=h11;try simp at h11_
     have F7:=A3 F4 h11 h11_;refine CF (by simp [F7] <;> omega) ?_;refine AW.skip ?_;refine hK230 _ _ _ ?_;refine Can.ren (m:=2) h0 [(0,0),(1,1)] [(0,AV.slc 0 0 3 v6.length false),(1,AV.fn 77 [AV.ptr 1 0]),(5,Iz v4),(6,Iz v5)] [(0,.grow (AaM (List.map AaA.av v6))),(1,.cells [Iz v1])] 2 (by decide) (by decide) (by decide) rfl (by simp [F7]) (by simp [F7]) ?_;exact JN ((v6,v4)) hF (by simp [F7]) (by simp [F7])
   ·rintro ⟨v7,v8⟩ hF
    try dsimp only at hF
    unfold AaK.J2 at hF;refine RG [] [none,none,none] fun _ _ g r=>?_;try simp [F3]
    and_intros <;> first | exact GK g | apply r | omega | (simp [maxLen,F3] <;> omega)
    refine hK221 _ _ _ ?_;exact NX (k':=n1) ((v8,IntKind.wrap .i64 (v5+1),v7)) hF (by simp [F3]) (by simp [F3])
  ·replace hF:=Aaa h3 hF;have h3_:=h3;try simp at h3_
   have F8:=A3 F2 h3 h3_;refine CF (by simp [F8] <;> omega) ?_;refine AW.exit ?_;try simp
   refine hK180 _ _ _ ?_;refine SR [] [none,none,none,none] fun _ _ g r=>?_;obtain ⟨⟨h20,h21⟩,hF⟩:=AaR hF;have h20_:=h20;try simp at h20_
   have h21_:=h21;try simp at h21_
   obtain ⟨⟨h24,h22⟩,hF⟩:=AaR hF;have h24n:=Ac6 h24;have h24f:=AgY (F:=AaA.av) (es:=3) (fun _=>rfl) (by decide) h24;have h23:=AkW (F:=AaA.av) (es:=3) (fun _=>rfl) v6 (AaA.mk 0 0 0) h22;obtain ⟨v12,h25,hF⟩:=Af8 hF;rw [h25] at h23;have h23_:=h23;try simp at h23_
   have h25l : v12.length=v6.length:=by rw [← h25]; simp <;> omega
   have h25p : 0<v12.length:=by omega
   have h25n:=Ac6 h25p;have h25f:=AgY (F:=AaA.av) (es:=3) (fun _=>rfl) (by decide) h25p;have F9:=A9 F8 h20 h21 h20_ h21_ h23 h23_ h24n (A7 h24f h24 h22 h25l h25p h25n h25f);refine TL F9 g r [0,1,6] [(0,AV.slc 0 0 3 v12.length false)] [0] [(0,.grow (AaM (List.map AaA.av v12)))] 2 ?_;refine SR [] [none,none,none,none] fun _ _ g r=>?_;obtain ⟨⟨h26,h27⟩,hF⟩:=AaR hF;have h26_:=h26;try simp at h26_
   have h27_:=h27;try simp at h27_
   have F10:=A5 F9 h26 h27 h26_ h27_;refine TL F10 g r [0,5] [(4,AV.slc 0 (0*3) 3 ((v4).toNat) false)] [] [] 2 ?_;refine WK [(4,AV.slc 0 (0*3) 3 ((v4).toNat) false)] [(0,.grow (AaM (List.map AaA.av v12))),(1,.cells [Iz v1])] 2 (by simp [F10]) (by simp [F10]) ?_;refine AW.frz 0 (o := .grow (AaM (List.map AaA.av v12))) (by simp [F10]) rfl [(4,Q0 (v12.take ((v4).toNat)))] [] ⟨(.lst (by simp) (by simp) (by simp [AhL,F10] <;> omega) (Ahx (len:=(v4).toNat) (F:=AaA.av) (es:=3) (fun _=>rfl) v12 (by omega)) rfl),trivial⟩ trivial ?_;simp only [Option.some.injEq] at hF;subst hF;refine AW.ret (hQ _ _ _ ?_ (AaJ ?_)).1
   ·simp [Try.f76,F10]
   ·simp [F10]
abbrev AhR  : Aau := .cells [Iz 0,AV.lst true true (List.map AaA.av ([] : List AaA)),AV.lst true true (List.map (AV.int .i64) ([] : List Int))]
theorem Ag1 (k : Nat) (v0 : Int) (v1 : (List AaA)) (v2 : (List Int)) (v3 : Int) (v4 : Int) (v5 : (List AaA)) (v6 : (List Int)) (hF : Ac9 k v0 v1 v2 v3=some (v4,v5,v6)) :
 AbF Try.prog 45 [AV.agg [AV.int .i64 v0,Q0 v1,AV.lst false false (List.map (AV.int .i64) v2)],AV.int .i64 v3] [] (AV.agg [AV.int .i64 v4,Q0 v5,AV.slc 0 0 1 v6.length false]) [some (Gi v6)]:=by
 unfold Ac9 at hF;refine EN Try.func45 ?_;intro c0 w0 Q h0 hQ
 refine WK [(0,AV.agg [Iz v0,Q0 v1,Lz v2]),(1,Iz v3)] [] 0 (by simp) (by simp) ?_;refine SW trivial [] [none,none,none] [0,1] [(2,AV.ptr 0 0),(3,AV.ptr 1 0),(4,AV.ptr 2 0)] [] [(0,.cells [Iz v0,Q0 v1,Lz v2]),(1,.cells [Iz v3]),(2,AhR )] 3 ?_;obtain ⟨v7,v8,v9,h1,hF⟩:=Adw hF;refine CL trivial [] [none,none,none,none] (Agg k _ _ _ _ _ _ h1) [2] [(5,AV.ptr 5 0)] [0] [(3,.grow (AaM (List.map AaA.av v8))),(4,Gi v9),(5,.cells [Iz v7,AV.slc 3 0 3 v8.length false,AV.slc 4 0 1 v9.length false])] 6 ?_;refine SR [] [none,none,none,none,none,none] fun _ _ g r=>?_;try simp
 and_intros
 try any_goals first | omega | (simp [maxLen] <;> omega)
 obtain ⟨v10,h2,hF⟩:=AaN hF;refine AbA (Ab7 k _ _ _ h2) (by simp) [3,1] [] [3] rfl (.cons (.same (by simp)) (.cons (.same (by simp)) .nil)) (by simp) (by decide) (by simp) (by simp) (.inl rfl) (by simp) (by simp) ?_;refine TL trivial g r [3] [] [1,3,5] [(5,.cells [Iz v7,Q0 v10,AV.slc 4 0 1 v9.length false])] 6 ?_;refine SQ [] [none,none] fun _ _ g r=>?_;try simp
 and_intros <;> first | exact GK g | apply r | omega | (simp [maxLen] <;> omega)
 refine RM h0 [(0,4),(1,2)] [(4,AV.ptr 1 0)] [(0,Gi v9),(1,.cells [Iz v7,Q0 v10,AV.slc 0 0 1 v9.length false])] 2 (by simp) (by simp) ?_;simp only [Option.some.injEq,Prod.mk.injEq] at hF;obtain ⟨e0,e1,e2⟩:=hF;subst e0 e1 e2;refine AW.ret (hQ _ _ _ ?_ (AaJ ?_)).1
 ·simp [Try.f45]
 ·simp
theorem AgL (k : Nat) (v0 : Int) (v1 : Int) (hF : Aa2 k v0=some v1) :
 AbF Try.prog 128 [AV.int .u64 v0] [] (AV.int .i64 v1) []:=by
 unfold Aa2 at hF;refine EN Try.func128 ?_;intro c0 w0 Q h0 hQ
 refine WK [(0,AV.int .u64 v0)] [] 0 (by simp) (by simp) ?_;refine SW trivial [] [none] [] [(2,Iz 0)] [] [] 0 ?_;refine AW.midF (α:=(Int×Int)) (fun (v2,v3)=>Aa2.J1 k v2 v3=some v1) (fun (v2,v3)=>[(0,AV.int .u64 v2),(2,Iz v3)]) (fun (v2,v3)=>[]) 0 (fun K43 hK43=>?_) ?_
 ·refine SW trivial [] [none,none] [] [(4,AV.bool (decide (4294967296≤v0)))] [] [] 0 ?_;by_cases h6 : 4294967296≤v0
  ·replace hF:=AaZ h6 hF;have h6_:=h6;try simp at h6_
   refine CT (by simp [h6,h6_] <;> omega) ?_;refine SW (A2 h6 h6_) [] [none,none,none] [0,2,4] [(0,AV.int .u64 (Int.fdiv v0 (2 ^ (32))))] [] [] 0 ?_;refine RG [] [none] fun _ _ g r=>?_;try simp [h6,h6_]
   and_intros <;> first | exact GK g | apply r | omega | (simp [h6,h6_,maxLen] <;> omega)
   refine hK43 _ _ _ ?_;exact JN ((Int.fdiv v0 (2 ^ (32)),32)) hF (by simp [h6,h6_]) (by simp [h6,h6_])
  ·replace hF:=Aaa h6 hF;have h6_:=h6;try simp at h6_
   refine CF (by simp [h6,h6_] <;> omega) ?_;refine AW.skip ?_;refine hK43 _ _ _ ?_;exact JN ((v0,0)) hF (by simp [h6,h6_]) (by simp [h6,h6_])
 ·rintro ⟨v2,v3⟩ hF
  try dsimp only at hF
  unfold Aa2.J1 at hF;refine AW.midF (α:=(Int×Int)) (fun (v4,v5)=>Aa2.J2 k v4 v5=some v1) (fun (v4,v5)=>[(0,AV.int .u64 v4),(2,Iz v5)]) (fun (v4,v5)=>[]) 0 (fun K39 hK39=>?_) ?_
  ·refine SW trivial [] [none,none] [] [(8,AV.bool (decide (65536≤v2)))] [] [] 0 ?_;by_cases h5 : 65536≤v2
   ·replace hF:=AaZ h5 hF;have h5_:=h5;try simp at h5_
    refine CT (by simp [h5,h5_] <;> omega) ?_;refine SW (A2 h5 h5_) [] [none,none,none] [0,8] [(0,AV.int .u64 (Int.fdiv v2 (2 ^ (16))))] [] [] 0 ?_;refine RG [] [none,none,none] fun _ _ g r=>?_;try simp [h5,h5_]
    and_intros <;> first | exact GK g | apply r | omega | (simp [h5,h5_,maxLen] <;> omega)
    refine hK39 _ _ _ ?_;exact JN ((Int.fdiv v2 (2 ^ (16)),IntKind.wrap .i64 (v3+16))) hF (by simp [h5,h5_]) (by simp [h5,h5_])
   ·replace hF:=Aaa h5 hF;have h5_:=h5;try simp at h5_
    refine CF (by simp [h5,h5_] <;> omega) ?_;refine AW.skip ?_;refine hK39 _ _ _ ?_;exact JN ((v2,v3)) hF (by simp [h5,h5_]) (by simp [h5,h5_])
  ·rintro ⟨v4,v5⟩ hF
   try dsimp only at hF
   unfold Aa2.J2 at hF;refine AW.midF (α:=(Int×Int)) (fun (v6,v7)=>Aa2.J3 k v6 v7=some v1) (fun (v6,v7)=>[(0,AV.int .u64 v6),(2,Iz v7)]) (fun (v6,v7)=>[]) 0 (fun K35 hK35=>?_) ?_
   ·refine SW trivial [] [none,none] [] [(14,AV.bool (decide (256≤v4)))] [] [] 0 ?_;by_cases h4 : 256≤v4
    ·replace hF:=AaZ h4 hF;have h4_:=h4;try simp at h4_
     refine CT (by simp [h4,h4_] <;> omega) ?_;refine SW (A2 h4 h4_) [] [none,none,none] [0,14] [(0,AV.int .u64 (Int.fdiv v4 (2 ^ (8))))] [] [] 0 ?_;refine RG [] [none,none,none] fun _ _ g r=>?_;try simp [h4,h4_]
     and_intros <;> first | exact GK g | apply r | omega | (simp [h4,h4_,maxLen] <;> omega)
     refine hK35 _ _ _ ?_;exact JN ((Int.fdiv v4 (2 ^ (8)),IntKind.wrap .i64 (v5+8))) hF (by simp [h4,h4_]) (by simp [h4,h4_])
    ·replace hF:=Aaa h4 hF;have h4_:=h4;try simp at h4_
     refine CF (by simp [h4,h4_] <;> omega) ?_;refine AW.skip ?_;refine hK35 _ _ _ ?_;exact JN ((v4,v5)) hF (by simp [h4,h4_]) (by simp [h4,h4_])
   ·rintro ⟨v6,v7⟩ hF
    try dsimp only at hF
    unfold Aa2.J3 at hF;refine SR [] [none,none,none,none,none,none,none] fun _ _ g r=>?_;obtain ⟨v8,h1,h2,h3,hF⟩:=Aad hF;have h3_:=Aas h3;have h2_:=h2;simp at h2_
    have h1_:=h1;try simp at h1_
    have h3__:=h3_;try simp [bI] at h3__
    have h3b:=AsF h3;try simp at h3b
    have F1:=A7 h1 h1_ h2_ h3 h3_ h3__ h3b;refine TL F1 g r [0,2] [(2,Iz (IntKind.wrap .i64 (v7+IntKind.wrap .i64 v8)))] [] [] 0 ?_;simp only [Option.some.injEq] at hF;subst hF;refine AW.ret (hQ _ _ _ ?_ (AaJ ?_)).1
    ·simp [Try.f128,F1]
    ·simp [F1]
theorem Agz (k : Nat) (v0 : Int) (v1 : Int) (hF : Acc k v0=some v1) :
 AbF Try.prog 117 [AV.int .u64 v0] [] (AV.int .i64 v1) []:=by
 unfold Acc at hF;refine EN Try.func117 ?_;intro c0 w0 Q h0 hQ
 refine WK [(0,AV.int .u64 v0)] [] 0 (by simp) (by simp) ?_;refine SW trivial [] [none] [] [] [] [] 0 ?_;refine AW.seq fun K5 hK5=>?_;refine AW.condCF ?_;refine AW.skip ?_;refine hK5 _ _ _ ?_;obtain ⟨v2,h1,hF⟩:=AaN hF;refine CL trivial [] [none,none,none] (AgL k _ _ h1) [0] [(2,Iz v2)] [] [] 0 ?_;simp only [Option.some.injEq] at hF;subst hF;refine AW.ret (hQ _ _ _ ?_ (AaJ ?_)).1
 ·simp [Try.f117]
 ·simp
theorem Aek (k : Nat) (v0 : Int) (v1 : Bool) (hF : AdB k v0=some v1) :
 AbF Try.prog 113 [AV.int .i64 v0] [] (AV.bool v1) []:=by
 unfold AdB at hF;refine EN Try.func113 ?_;intro c0 w0 Q h0 hQ
 refine WK [(0,Iz v0)] [] 0 (by simp) (by simp) ?_;refine SW trivial [] [none] [] [] [] [] 0 ?_;refine SW trivial [] [none,none,none,none] [0] [(2,AV.bool (v0 !=v0))] [] [] 0 ?_;simp only [Option.some.injEq] at hF;subst hF;refine AW.ret (hQ _ _ _ ?_ (AaJ ?_)).1
 ·simp [Try.f113]
 ·simp
theorem AhZ (k : Nat) (v0 : Int) (v1 : Int) (v2 : Bool) (hF : AdS k v0 v1=some v2) :
 AbF Try.prog 124 [AV.int .i64 v0,AV.int .i64 v1] [] (AV.bool v2) []:=by
 unfold AdS at hF;refine EN Try.func124 ?_;intro c0 w0 Q h0 hQ
 refine WK [(0,Iz v0),(1,Iz v1)] [] 0 (by simp) (by simp) ?_;refine SW trivial [] [none] [] [] [] [] 0 ?_;refine SR [] [none,none,none,some (7,true),some (7,true),some (7,true),none,none,some (12,false),some (12,false),some (12,false),none,none] fun _ _ g r=>?_;try simp
 and_intros
 try any_goals first | omega | (simp [maxLen] <;> omega)
 obtain ⟨v3,h1,hF⟩:=AaN hF;refine AC (Aek k _ _ h1) (.cons (.same (by simp)) .nil) ?_;by_cases h2 : v3=true
 ·replace hF:=AaZ h2 hF;have h2_:=h2;try simp at h2_
  try simp [h2,h2_]
  and_intros
  try any_goals first | omega | (simp [h2,h2_,maxLen] <;> omega)
  obtain ⟨v4,h3,hF⟩:=AaN hF;refine AC (Aek k _ _ h3) (.cons (.same (by simp [h2,h2_])) .nil) ?_;by_cases h4 : (!v4)=true
  ·replace hF:=AaZ h4 hF;have h4_:=h4;try simp at h4_
   have F1:=A4 h2 h2_ h4 h4_;refine TL F1 g r [0,1] [(4,AV.bool true)] [] [] 0 ?_;simp only [Option.some.injEq] at hF;subst hF;refine AW.ret (hQ _ _ _ ?_ (AaJ ?_)).1
   ·simp [Try.f124,F1]
   ·simp [F1]
  ·replace hF:=Aaa h4 hF;have h4_:=h4;try simp at h4_
   have F2:=A4 h2 h2_ h4 h4_;refine TL F2 g r [0,1] [(4,AV.bool (decide (v0<v1)))] [] [] 0 ?_;simp only [Option.some.injEq] at hF;subst hF;refine AW.ret (hQ _ _ _ ?_ (AaJ ?_)).1
   ·simp [Try.f124,F2]
   ·simp [F2]
 ·replace hF:=Aaa h2 hF;have h2_:=h2;try simp at h2_
  refine TL (A2 h2 h2_) g r [0,1] [(4,AV.bool (decide (v0<v1)))] [] [] 0 ?_;simp only [Option.some.injEq] at hF;subst hF;refine AW.ret (hQ _ _ _ ?_ (AaJ ?_)).1
  ·simp [Try.f124,h2,h2_]
  ·simp [h2,h2_]
theorem Ac0 (k : Nat) (v0 : (List Int)) (v1 : Int) (v2 : Int) (v3 : (List Int)) (hF : AaL k v0 v1 v2=some v3) :
 AbF Try.prog 118 [AV.slc 0 0 1 v0.length false,AV.int .i64 v1,AV.int .i64 v2] [Gi v0] (AV.tup []) [some (Gi v3)]:=by
 unfold AaL at hF;refine EN Try.func118 ?_;intro c0 w0 Q h0 hQ
 refine WK [(0,AV.slc 0 0 1 v0.length false),(1,Iz v1),(2,Iz v2)] [(0,Gi v0)] 1 (by simp) (by simp) ?_;refine SW trivial [] [none,none,none] [] [(6,Iz (IntKind.wrap .i64 (v1+1)))] [] [] 1 ?_;refine AW.block ?_;refine AW.loopF (α:=(Int×(List Int))) (fun n (v4,v5)=>AaL.L1 k v1 v2 n v4 v5=some v3) (fun (v4,v5)=>[(0,AV.slc 0 0 1 v5.length false),(1,Iz v1),(2,Iz v2),(6,Iz v4)]) (fun (v4,v5)=>[(0,Gi v5)]) 1 k ((IntKind.wrap .i64 (v1+1),v0)) hF (by simp) (by simp) (by simp) ?_;rintro (_|n1) ⟨v4,v5⟩ hF K459 hK459
 ·try dsimp only at hF
  rw [AaL.L1] at hF; cases hF
 try dsimp only at hF
 rw [AaL.L1] at hF;refine AW.seq fun K461 hK461=>?_;refine SW trivial [] [none,none,none] [] [(12,AV.bool (decide (v4<v2)))] [] [] 1 ?_;by_cases h1 : v4<v2
 ·replace hF:=AaZ h1 hF;have h1_:=h1;try simp at h1_
  refine CT (by simp [h1,h1_] <;> omega) ?_;refine AW.skip ?_;refine hK461 _ _ _ ?_;refine AW.midF (α:=(List Int)) (fun v6=>AaL.J2 k v4 (fun v4_ v5_=>AaL.L1 k v1 v2 n1 v4_ v5_) v6=some v3) (fun v6=>[(0,AV.slc 0 0 1 v6.length false),(1,Iz v1),(2,Iz v2),(6,Iz v4)]) (fun v6=>[(0,Gi v6)]) 1 (fun K494 hK494=>?_) ?_
  ·refine AW.block ?_;refine SW (A2 h1 h1_) [] [none,none] [] [(7,Iz v4)] [] [] 1 ?_;refine AW.block ?_;refine AW.loopF (α:=(Int×(List Int))) (fun n (v7,v8)=>AaL.L3 k v1 v4 (fun v4_ v5_=>AaL.L1 k v1 v2 n1 v4_ v5_) n v7 v8=some v3) (fun (v7,v8)=>[(0,AV.slc 0 0 1 v8.length false),(1,Iz v1),(2,Iz v2),(6,Iz v4),(7,Iz v7)]) (fun (v7,v8)=>[(0,Gi v8)]) 1 k ((v4,v5)) hF (by simp [h1,h1_]) (by simp [h1,h1_]) (by simp) ?_;rintro (_|n3) ⟨v7,v8⟩ hF K517 hK517
   ·try dsimp only at hF
    rw [AaL.L3] at hF; cases hF
   try dsimp only at hF
   rw [AaL.L3] at hF;refine AW.seq fun K519 hK519=>?_;refine SQ [] [none,none,none,none,some (19,true),some (19,true),some (19,true),some (19,true),some (19,true),some (19,true),some (19,true),some (19,true),some (19,true),some (19,true),none] fun _ _ g r=>?_;by_cases h2 : v1<v7
   ·replace hF:=AaZ h2 hF;have h2_:=h2;try simp at h2_
    obtain ⟨⟨h3,h4⟩,hF⟩:=AaR hF;have h4_:=Aa3 h4;obtain ⟨v9,h5,h6,h7,hF⟩:=Aad hF;have h7_:=Aas h7;try simp at h7_
    have h6_:=h6;try simp at h6_
    obtain ⟨⟨h8,h9⟩,hF⟩:=AaR hF;have h9_:=Aa3 h9;obtain ⟨v10,h10,h11,h12,hF⟩:=Aad hF;have h12_:=Aas h12;try simp at h12_
    have h11_:=h11;try simp at h11_
    have F1:=A9 h1 h1_ h2 h2_ h3 h4 h4_ h5 (A9 h6 h7 h7_ h6_ h8 h9 h9_ h10 (A4 h11 h12 h12_ h11_));try simp [F1]
    and_intros
    try any_goals first | omega | (simp [maxLen,F1] <;> omega)
    obtain ⟨v11,h13,hF⟩:=AaN hF;refine AC (AhZ k _ _ _ h13) (.cons (.same (by simp [F1])) (.cons (.same (by simp [F1])) .nil)) ?_;try simp [F1]
    and_intros <;> first | exact GK g | apply r | omega | (simp [maxLen,F1] <;> omega)
    refine WK [(0,AV.slc 0 0 1 v8.length false),(1,Iz v1),(2,Iz v2),(6,Iz v4),(7,Iz v7),(30,AV.bool v11)] [(0,Gi v8)] 1 (by simp [F1]) (by simp [F1]) ?_;by_cases h14 : v11=true
    ·replace hF:=AaZ h14 hF;have h14_:=h14;try simp at h14_
     have F2:=A3 F1 h14 h14_;refine CT (by simp [F2] <;> omega) ?_;refine AW.skip ?_;refine hK519 _ _ _ ?_;refine AW.seq fun K522 hK522=>?_;refine AW.block ?_;refine RG [] [none,none,none,none,none,none,none,none,none,none,none,none,none,none,none,none,none,none] fun _ _ g r=>?_;obtain ⟨⟨h15,h16⟩,hF⟩:=AaR hF;have h16_:=Aa3 h16;obtain ⟨⟨h17,h18⟩,hF⟩:=AaR hF;have h18_:=Aa3 h18;obtain ⟨⟨h19,h20⟩,hF⟩:=AaR hF;have h20_:=Aa3 h20;obtain ⟨⟨h21,h22⟩,hF⟩:=AaR hF;have h22_:=Aa3 h22;have F3:=A9 F2 h15 h16 h16_ h17 h18 h18_ h19 (A5 h20 h20_ h21 h22 h22_);try simp [F3]
     and_intros <;> first | exact GK g | apply r | omega | (simp [maxLen,F3] <;> omega)
     refine hK522 _ _ _ ?_;refine WK [(0,AV.slc 0 0 1 (((v8.set (v7).toNat v10).set (IntKind.wrap .i64 (v7-1)).toNat v9).length) false),(1,Iz v1),(2,Iz v2),(6,Iz v4),(7,Iz v7)] [(0,Gi ((v8.set (v7).toNat v10).set (IntKind.wrap .i64 (v7-1)).toNat v9))] 1 (by simp [F3]) (by simp [F3]) ?_;refine RG [] [none,none,none] fun _ _ g r=>?_;try simp [F3]
     and_intros <;> first | exact GK g | apply r | omega | (simp [maxLen,F3] <;> omega)
     refine hK517 _ _ _ ?_;exact NX (k':=n3) ((IntKind.wrap .i64 (v7-1),(v8.set (v7).toNat v10).set (IntKind.wrap .i64 (v7-1)).toNat v9)) hF (by simp [F3]) (by simp [F3])
    ·replace hF:=Aaa h14 hF;have h14_:=h14;try simp at h14_
     have F4:=A3 F1 h14 h14_;refine CF (by simp [F4] <;> omega) ?_;refine AW.exit ?_;try simp
     refine hK494 _ _ _ ?_;exact JN (v8) hF (by simp [F4]) (by simp [F4])
   ·replace hF:=Aaa h2 hF;have h2_:=h2;try simp at h2_
    have F5:=A4 h1 h1_ h2 h2_;try simp [F5]
    and_intros <;> first | exact GK g | apply r | omega | (simp [maxLen,F5] <;> omega)
    refine WK [(0,AV.slc 0 0 1 v8.length false),(1,Iz v1),(2,Iz v2),(6,Iz v4),(7,Iz v7),(30,AV.bool false)] [(0,Gi v8)] 1 (by simp [F5]) (by simp [F5]) ?_;refine CF (by simp [F5]) ?_;refine AW.exit ?_;try simp
    refine hK494 _ _ _ ?_;exact JN (v8) hF (by simp [F5]) (by simp [F5])
  ·rintro v6 hF
   try dsimp only at hF
   unfold AaL.J2 at hF;refine RG [] [none,none,none] fun _ _ g r=>?_;try simp [h1,h1_]
   and_intros <;> first | exact GK g | apply r | omega | (simp [h1,h1_,maxLen] <;> omega)
   refine hK459 _ _ _ ?_;exact NX (k':=n1) ((IntKind.wrap .i64 (v4+1),v6)) hF (by simp [h1,h1_]) (by simp [h1,h1_])
 ·replace hF:=Aaa h1 hF;have h1_:=h1;try simp at h1_
  refine CF (by simp [h1,h1_] <;> omega) ?_;refine AW.exit ?_;try simp
  simp only [Option.some.injEq] at hF;subst hF;refine (hQ _ _ _ ?_ (AaJ ?_)).2
  ·simp [Try.f118,h1,h1_]
  ·simp [h1,h1_]
theorem Adn (k : Nat) (v0 : (List Int)) (v1 : Int) (v2 : Int) (v3 : Int) (v4 : (List Int)) (hF : Aay k v0 v1 v2 v3=some v4) :
 AbF Try.prog 116 [AV.slc 0 0 1 v0.length false,AV.int .i64 v1,AV.int .i64 v2,AV.int .i64 v3] [Gi v0] (AV.tup []) [some (Gi v4)]:=by
 unfold Aay at hF;refine EN Try.func116 ?_;intro c0 w0 Q h0 hQ
 refine WK [(0,AV.slc 0 0 1 v0.length false),(1,Iz v1),(2,Iz v2),(3,Iz v3)] [(0,Gi v0)] 1 (by simp) (by simp) ?_;refine SW trivial [] [none] [] [(8,AV.bool true)] [] [] 1 ?_;refine SW trivial [] [none] [] [(9,AV.bool true)] [] [] 1 ?_;refine AW.block ?_;refine AW.loopF (α:=Unit) (fun n _=>Aay.L1 k v0 v1 v2 v3 n=some v4) (fun _=>[(0,AV.slc 0 0 1 v0.length false),(1,Iz v1),(2,Iz v2),(3,Iz v3),(8,AV.bool true),(9,AV.bool true)]) (fun _=>[(0,Gi v0)]) 1 k (()) hF (by simp) (by simp) (by simp) ?_;rintro (_|n1) ⟨⟩ hF K111 hK111
 ·try dsimp only at hF
  rw [Aay.L1] at hF; cases hF
 try dsimp only at hF
 rw [Aay.L1] at hF;refine AW.block ?_;refine SW trivial [] [none,none,none,none] [] [(10,Iz (IntKind.wrap .i64 (v2-v1)))] [] [] 1 ?_;refine AW.seq fun K115 hK115=>?_;refine SW trivial [] [none,none] [] [(23,AV.bool (decide (IntKind.wrap .i64 (v2-v1)≤12)))] [] [] 1 ?_;by_cases h1 : IntKind.wrap .i64 (v2-v1)≤12
 ·replace hF:=AaZ h1 hF;have h1_:=h1;try simp at h1_
  refine CT (by simp [h1,h1_] <;> omega) ?_;refine SR [] [none,none,none,none] fun _ _ g r=>?_;try simp [h1,h1_]
  and_intros
  try any_goals first | omega | (simp [h1,h1_,maxLen] <;> omega)
  obtain ⟨v5,h2,hF⟩:=AaN hF;obtain ⟨h3,hF⟩:=AaR hF;refine AbA (Ac0 k _ _ _ _ h2) (by simp) [0] [] [0] rfl (.cons (.same (by simp [h1,h1_])) (.cons (.same (by simp [h1,h1_])) (.cons (.same (by simp [h1,h1_])) .nil))) (by simp [h1,h1_]) (by decide) (by simp) (by simp) (.inl rfl) (by simp) (by simp) ?_;have F1:=A3 h1 h1_ h3;refine TL F1 g r [0,1,2,3,8,9] [] [0] [(0,Gi v5)] 1 ?_;simp only [Option.some.injEq] at hF;subst hF;refine AW.ret (hQ _ _ _ ?_ (AaJ ?_)).1
  ·simp [Try.f116,F1]
  ·simp [F1]
 ·replace hF:=Aaa h1 hF;have h1_:=h1;try simp at h1_
  refine CF (by simp [h1,h1_] <;> omega) ?_;refine AW.skip ?_;refine hK115 _ _ _ ?_;refine AW.seq fun K120 hK120=>?_;refine SW (A2 h1 h1_) [] [none,none] [] [(10,Iz (IntKind.wrap .i64 (v2-v1))),(29,AV.bool (v3==0))] [] [] 1 ?_;by_cases h4 : v3=0
  ·replace hF:=AaZ h4 hF;cases hF
  ·replace hF:=Aaa h4 hF;have h4_:=AbY h4;have h4__:=Abc h4;have F2:=A5 h1 h1_ h4 h4_ h4__;refine CF (by simp [F2] <;> omega) ?_;refine AW.skip ?_;refine hK120 _ _ _ ?_;refine AW.seq fun K124 hK124=>?_;refine SW F2 [] [none,none] [29] [(35,AV.bool false)] [] [] 1 ?_;refine CF (by simp [F2]) ?_;cases hF
theorem Aef (k : Nat) (v0 : (List Int)) (v1 : (List Int)) (hF : Abz k v0=some v1) :
 AbF Try.prog 112 [AV.slc 0 0 1 v0.length false] [Gi v0] (AV.tup []) [some (Gi v1)]:=by
 unfold Abz at hF;refine EN Try.func112 ?_;intro c0 w0 Q h0 hQ
 refine WK [(0,AV.slc 0 0 1 v0.length false)] [(0,Gi v0)] 1 (by simp) (by simp) ?_;refine SW trivial [] [none,none,none] [] [(2,Iz (v0.length : Int))] [] [] 1 ?_;refine RG [] [none,none,none,none,none,none] fun _ _ g r=>?_;try simp
 and_intros
 try any_goals first | omega | (simp [maxLen] <;> omega)
 obtain ⟨v2,h1,hF⟩:=AaN hF;refine AC (Agz k _ _ h1) (.cons (.same (by simp)) .nil) ?_;try simp
 and_intros
 try any_goals first | omega | (simp [maxLen] <;> omega)
 obtain ⟨v3,h2,hF⟩:=AaN hF;obtain ⟨h3,hF⟩:=AaR hF;refine AbA (Adn k _ _ _ _ _ h2) (by simp) [0] [] [0] rfl (.cons (.same (by simp)) (.cons (.same (by simp)) (.cons (.same (by simp)) (.cons (.same (by simp)) .nil)))) (by simp) (by decide) (by simp) (by simp) (.inl rfl) (by simp) (by simp) ?_;try simp [h3]
 and_intros <;> first | exact GK g | apply r | omega | (simp [h3,maxLen] <;> omega)
 simp only [Option.some.injEq] at hF;subst hF;refine (hQ _ _ _ ?_ (AaJ ?_)).2
 ·simp [Try.f112,h3]
 ·simp [h3]
theorem AiG (k : Nat) (v0 : Int) (v1 : (List AaA)) (v2 : (List Int)) (v3 : Int) (v4 : (List Int)) (hF : AbH k v0 v1 v2 v3=some v4) :
 AbF Try.prog 99 [AV.agg [AV.int .i64 v0,Q0 v1,AV.lst false false (List.map (AV.int .i64) v2)],AV.int .i64 v3] [] (AV.slc 0 0 1 v4.length false) [some (Gi v4)]:=by
 unfold AbH at hF;refine EN Try.func99 ?_;intro c0 w0 Q h0 hQ
 refine WK [(0,AV.agg [Iz v0,Q0 v1,Lz v2]),(1,Iz v3)] [] 0 (by simp) (by simp) ?_;refine SW trivial [] [none,none] [0] [(2,AV.ptr 0 0)] [] [(0,.cells [Iz v0,Q0 v1,Lz v2])] 1 ?_;refine SW trivial [] [none] [] [(5,AV.lst true true (List.map (AV.int .i64) ([] : List Int)))] [] [] 1 ?_;refine AW.seq fun K134 hK134=>?_;refine SW trivial [] [none,none,none,none] [2] [(9,Q0 v1),(10,Iz (v1.length : Int)),(11,Iz 0)] [0] [] 1 ?_;refine AW.block ?_;refine AW.own' 5 1 true (by simp) (by decide) ?_;refine RM h0 [(0,1)] [(1,Iz v3),(5,AV.slc 0 0 1 (([] : List Int).length) false),(9,Q0 v1),(10,Iz (v1.length : Int)),(11,Iz 0)] [(0,Gi ([] : List Int))] 1 (by simp) (by simp) ?_;refine AW.loopF (α:=(Int×(List Int))) (fun n (v5,v6)=>AbH.L1 k v1 v3 n v5 v6=some v4) (fun (v5,v6)=>[(1,Iz v3),(5,AV.slc 0 0 1 v6.length false),(9,Q0 v1),(10,Iz (v1.length : Int)),(11,Iz v5)]) (fun (v5,v6)=>[(0,Gi v6)]) 1 k ((0,([] : List Int))) hF (by simp) (by simp) (by simp) ?_;rintro (_|n1) ⟨v5,v6⟩ hF K166 hK166
 ·try dsimp only at hF
  rw [AbH.L1] at hF; cases hF
 try dsimp only at hF
 rw [AbH.L1] at hF;refine SW trivial [] [none] [] [(12,AV.bool (decide (v5<(v1.length : Int))))] [] [] 1 ?_;refine AW.seq fun K168 hK168=>?_;by_cases h1 : v5<(v1.length : Int)
 ·replace hF:=AaZ h1 hF;have h1_:=h1;try simp at h1_
  refine CT (by simp [h1,h1_] <;> omega) ?_;refine AW.skip ?_;refine hK168 _ _ _ ?_;refine AW.midF (α:=(List Int)) (fun v7=>AbH.J2 k v5 (fun v5_ v6_=>AbH.L1 k v1 v3 n1 v5_ v6_) v7=some v4) (fun v7=>[(1,Iz v3),(5,AV.slc 0 0 1 v7.length false),(9,Q0 v1),(10,Iz (v1.length : Int)),(11,Iz v5)]) (fun v7=>[(0,Gi v7)]) 1 (fun K173 hK173=>?_) ?_
  ·refine AW.block ?_;refine SR [] [none,none,none,none] fun _ _ g r=>?_;obtain ⟨v8,h2,h3,h4,hF⟩:=Aad hF;have h4_:=Aas h4;try simp at h4_
   have h3_:=h3;try simp at h3_
   have F1:=A7 h1 h1_ h2 h3 h4 h4_ h3_;refine TL F1 g r [] [(7,AV.ptr 1 0)] [] [(1,.cells [Iz v8.From,Iz v8.To,Iz v8.Level])] 2 ?_;refine SW F1 [] [none,none,none,none] [] [(18,AV.bool (v8.From==v3))] [] [] 2 ?_;by_cases h5 : v8.From=v3
   ·replace hF:=AaZ h5 hF;have h5q : v8.From=v3:=h5;have h5_:=Abf h5q;have h5__:=Abe h5q;refine CT (by simp [F1,h5_,h5__] <;> omega) ?_;refine RG [] [none,none,none,none,none,none] fun _ _ g r=>?_;obtain ⟨h6,hF⟩:=AaR hF;have h6_:=h6;try simp at h6_
    have F2:=A4 F1 h5_ h5__ h6;try simp [F2]
    and_intros <;> first | exact GK g | apply r | omega | (simp [maxLen,F2] <;> omega)
    refine hK173 _ _ _ ?_;refine RN h0 [(0,2)] [(1,Iz v3),(5,AV.slc 0 0 1 ((v6++([v8.To] : List Int)).length) false),(9,Q0 v1),(10,Iz (v1.length : Int)),(11,Iz v5)] [(0,Gi (v6++([v8.To] : List Int)))] 1 (by simp [F2] <;> omega) (by simp [F2]) ?_;exact JN (v6++([v8.To] : List Int)) hF (by simp [F2]) (by simp [F2])
   ·replace hF:=Aaa h5 hF;have h5_:=AbY h5;have h5__:=Abc h5;have F3:=A4 F1 h5 h5_ h5__;refine CF (by simp [F3] <;> omega) ?_;refine AW.skip ?_;refine hK173 _ _ _ ?_;refine RN h0 [(0,0)] [(1,Iz v3),(5,AV.slc 0 0 1 v6.length false),(9,Q0 v1),(10,Iz (v1.length : Int)),(11,Iz v5)] [(0,Gi v6)] 1 (by simp [F3]) (by simp [F3]) ?_;exact JN (v6) hF (by simp [F3]) (by simp [F3])
  ·rintro v7 hF
   try dsimp only at hF
   unfold AbH.J2 at hF;refine RG [] [none,none] fun _ _ g r=>?_;try simp [h1,h1_]
   and_intros <;> first | exact GK g | apply r | omega | (simp [h1,h1_,maxLen] <;> omega)
   refine hK166 _ _ _ ?_;exact NX (k':=n1) ((IntKind.wrap .i64 (v5+1),v7)) hF (by simp [h1,h1_]) (by simp [h1,h1_])
 ·replace hF:=Aaa h1 hF;have h1_:=h1;try simp at h1_
  refine CF (by simp [h1,h1_] <;> omega) ?_;refine AW.exit ?_;try simp
  refine hK134 _ _ _ ?_;refine SR [] [none,none] fun _ _ g r=>?_;try simp [h1,h1_]
  and_intros
  try any_goals first | omega | (simp [h1,h1_,maxLen] <;> omega)
  obtain ⟨v9,h7,hF⟩:=AaN hF;obtain ⟨h8,hF⟩:=AaR hF;refine AbA (Aef k _ _ h7) (by simp) [0] [] [0] rfl (.cons (.same (by simp [h1,h1_])) .nil) (by simp [h1,h1_]) (by decide) (by simp) (by simp) (.inl rfl) (by simp) (by simp) ?_;have F4:=A3 h1 h1_ h8;refine TL F4 g r [1,5,9,10,11] [(5,AV.slc 0 0 1 v9.length false)] [0] [(0,Gi v9)] 1 ?_;refine SW F4 [] [none,none] [5] [(4,AV.slc 0 0 1 v9.length false)] [] [] 1 ?_;simp only [Option.some.injEq] at hF;subst hF;refine AW.ret (hQ _ _ _ ?_ (AaJ ?_)).1
  ·simp [Try.f99,F4]
  ·simp [F4]
abbrev Aeb (v1 : Int) (v2 : (List AaA)) (v3 : (List Int)) (v4 : Int) (v5 : Int) (v6 : Int) (v8 : Bool) : Aau := .cells [Iz v1,Q0 v2,Lz v3,Iz v4,Iz v5,Iz v6,AV.map 1,AV.bool v8]
theorem AdG (k : Nat) (v0 : Int) (v1 : Int) (v2 : (List AaA)) (v3 : (List Int)) (v4 : Int) (v5 : Int) (v6 : Int) (v7 : (List (Int×Bool))) (v8 : Bool) (v9 : Int) (v10 : Bool) (hF : Abm k v0 v1 v2 v3 v4 v5 v6 v7 v8 v9=some v10) :
 AbF Try.prog 107 [AV.int .i64 v0,AV.ptr 0 0,AV.ptr 2 0] [.cells [AV.int .i64 v1,Q0 v2,AV.lst false false (List.map (AV.int .i64) v3),AV.int .i64 v4,AV.int .i64 v5,AV.int .i64 v6,AV.map 1,AV.bool v8],.mp (mpA (AV.int .i64) AV.bool v7),.cells [AV.int .i64 v9]] (AV.bool v10) [some (.cells [AV.int .i64 v1,Q0 v2,AV.lst false false (List.map (AV.int .i64) v3),AV.int .i64 v4,AV.int .i64 v5,AV.int .i64 v6,AV.map 1,AV.bool v8]),some (.mp (mpA (AV.int .i64) AV.bool v7)),some (.cells [AV.int .i64 v9])]:=by
 unfold Abm at hF;refine EN Try.func107 ?_;intro c0 w0 Q h0 hQ
 refine WK [(0,Iz v0),(1,AV.ptr 0 0),(2,AV.ptr 2 0)] [(0,Aeb v1 v2 v3 v4 v5 v6 v8),(1,.mp (mpA (AV.int .i64) AV.bool v7)),(2,.cells [Iz v9])] 3 (by simp) (by simp) ?_;refine SW trivial [] [none] [] [] [] [] 3 ?_;refine SR [] [none,none,none,none,none,some (9,false),some (9,false),some (9,false),some (9,false),some (9,false),some (14,true),some (14,true),some (14,true),some (14,true),some (9,false),some (9,false),some (20,true),some (20,true),some (9,false),none,none] fun _ _ g r=>?_;rcases Ab0 hF with ⟨v11,h1,hF⟩ | ⟨h2,hF⟩
 ·by_cases h3 : v11=true
  ·replace hF:=AaZ h3 hF;have h3_:=h3;try simp at h3_
   have F1:=A3 h1 h3 h3_;refine TL F1 g r [0,1,2] [(4,AV.bool true)] [] [] 3 ?_;simp only [Option.some.injEq] at hF;subst hF;refine AW.ret (hQ _ _ _ ?_ (AaJ ?_)).1
   ·simp [Try.f107,F1]
   ·simp [F1]
  ·replace hF:=Aaa h3 hF;have h3_:=h3;try simp at h3_
   by_cases h4 : v9=v5
   ·replace hF:=AaZ h4 hF;have h4q : v9=v5:=h4;have h4_:=Abf h4q;have h4__:=Abe h4q;by_cases h5 : v0=v6
    ·replace hF:=AaZ h5 hF;have h5q : v0=v6:=h5;have h5_:=Abf h5q;have h5__:=Abe h5q;have F2:=A7 h1 h3 h3_ h4_ h4__ h5_ h5__;refine TL F2 g r [0,1,2] [(4,AV.bool v8)] [] [] 3 ?_;simp only [Option.some.injEq] at hF;subst hF;refine AW.ret (hQ _ _ _ ?_ (AaJ ?_)).1
     ·simp [Try.f107,F2]
     ·simp [F2]
    ·replace hF:=Aaa h5 hF;have h5_:=AbY h5;have h5__:=Abc h5;have F3:=A8 h1 h3 h3_ h4_ h4__ h5 h5_ h5__;refine TL F3 g r [0,1,2] [(4,AV.bool false)] [] [] 3 ?_;simp only [Option.some.injEq] at hF;subst hF;refine AW.ret (hQ _ _ _ ?_ (AaJ ?_)).1
     ·simp [Try.f107,F3]
     ·simp [F3]
   ·replace hF:=Aaa h4 hF;have h4_:=AbY h4;have h4__:=Abc h4;have F4:=A6 h1 h3 h3_ h4 h4_ h4__;refine TL F4 g r [0,1,2] [(4,AV.bool false)] [] [] 3 ?_;simp only [Option.some.injEq] at hF;subst hF;refine AW.ret (hQ _ _ _ ?_ (AaJ ?_)).1
    ·simp [Try.f107,F4]
    ·simp [F4]
 ·by_cases h6 : v9=v5
  ·replace hF:=AaZ h6 hF;have h6q : v9=v5:=h6;have h6_:=Abf h6q;have h6__:=Abe h6q;by_cases h7 : v0=v6
   ·replace hF:=AaZ h7 hF;have h7q : v0=v6:=h7;have h7_:=Abf h7q;have h7__:=Abe h7q;have F5:=A5 h2 h6_ h6__ h7_ h7__;refine TL F5 g r [0,1,2] [(4,AV.bool v8)] [] [] 3 ?_;simp only [Option.some.injEq] at hF;subst hF;refine AW.ret (hQ _ _ _ ?_ (AaJ ?_)).1
    ·simp [Try.f107,F5]
    ·simp [F5]
   ·replace hF:=Aaa h7 hF;have h7_:=AbY h7;have h7__:=Abc h7;have F6:=A6 h2 h6_ h6__ h7 h7_ h7__;refine TL F6 g r [0,1,2] [(4,AV.bool false)] [] [] 3 ?_;simp only [Option.some.injEq] at hF;subst hF;refine AW.ret (hQ _ _ _ ?_ (AaJ ?_)).1
    ·simp [Try.f107,F6]
    ·simp [F6]
  ·replace hF:=Aaa h6 hF;have h6_:=AbY h6;have h6__:=Abc h6;have F7:=A4 h2 h6 h6_ h6__;refine TL F7 g r [0,1,2] [(4,AV.bool false)] [] [] 3 ?_;simp only [Option.some.injEq] at hF;subst hF;refine AW.ret (hQ _ _ _ ?_ (AaJ ?_)).1
   ·simp [Try.f107,F7]
   ·simp [F7]
abbrev Abu (v1 : Int) (v2 : (List AaA)) (v3 : (List Int)) (v4 : Int) (v5 : Int) (v6 : Int) (v8 : Bool) : Aau := .cells [Iz v1,Q0 v2,Lz v3,Iz v4,Iz v5,Iz v6,AV.map 2,AV.bool v8]
theorem Acg (k : Nat) (v0 : (List Int)) (v1 : Int) (v2 : (List AaA)) (v3 : (List Int)) (v4 : Int) (v5 : Int) (v6 : Int) (v7 : (List (Int×Bool))) (v8 : Bool) (v9 : Int) (v10 : Int) (hF : Aac k v0 v1 v2 v3 v4 v5 v6 v7 v8 v9=some v10) :
 AbF Try.prog 88 [AV.slc 0 0 1 v0.length false,AV.fn 107 [AV.ptr 1 0,AV.ptr 3 0]] [Gi v0,.cells [AV.int .i64 v1,Q0 v2,AV.lst false false (List.map (AV.int .i64) v3),AV.int .i64 v4,AV.int .i64 v5,AV.int .i64 v6,AV.map 2,AV.bool v8],.mp (mpA (AV.int .i64) AV.bool v7),.cells [AV.int .i64 v9]] (AV.int .i64 v10) [some (Gi v0),some (.cells [AV.int .i64 v1,Q0 v2,AV.lst false false (List.map (AV.int .i64) v3),AV.int .i64 v4,AV.int .i64 v5,AV.int .i64 v6,AV.map 2,AV.bool v8]),some (.mp (mpA (AV.int .i64) AV.bool v7)),some (.cells [AV.int .i64 v9])]:=by
 unfold Aac at hF;refine EN Try.func88 ?_;intro c0 w0 Q h0 hQ
 refine WK [(0,AV.slc 0 0 1 v0.length false),(1,AV.fn 107 [AV.ptr 1 0,AV.ptr 3 0])] [(0,Gi v0),(1,Abu v1 v2 v3 v4 v5 v6 v8),(2,.mp (mpA (AV.int .i64) AV.bool v7)),(3,.cells [Iz v9])] 4 (by simp) (by simp) ?_;refine SW trivial [] [none] [] [] [] [] 4 ?_;refine AW.seq fun K131 hK131=>?_;refine SW trivial [] [none,none,none] [] [(7,Iz (v0.length : Int)),(8,Iz 0)] [] [] 4 ?_;refine AW.block ?_;refine AW.loopF (α:=Int) (fun n v11=>Aac.L1 k v0 v1 v2 v3 v4 v5 v6 v7 v8 v9 n v11=some v10) (fun v11=>[(0,AV.slc 0 0 1 v0.length false),(1,AV.fn 107 [AV.ptr 1 0,AV.ptr 3 0]),(7,Iz (v0.length : Int)),(8,Iz v11)]) (fun v11=>[(0,Gi v0),(1,Abu v1 v2 v3 v4 v5 v6 v8),(2,.mp (mpA (AV.int .i64) AV.bool v7)),(3,.cells [Iz v9])]) 4 k (0) hF (by simp) (by simp) (by simp) ?_;rintro (_|n1) v11 hF K163 hK163
 ·try dsimp only at hF
  rw [Aac.L1] at hF; cases hF
 try dsimp only at hF
 rw [Aac.L1] at hF;refine SW trivial [] [none] [] [(9,AV.bool (decide (v11<(v0.length : Int))))] [] [] 4 ?_;refine AW.seq fun K165 hK165=>?_;by_cases h1 : v11<(v0.length : Int)
 ·replace hF:=AaZ h1 hF;have h1_:=h1;try simp at h1_
  refine CT (by simp [h1,h1_] <;> omega) ?_;refine AW.skip ?_;refine hK165 _ _ _ ?_;refine AW.seq fun K169 hK169=>?_;refine AW.block ?_;refine SW (A2 h1 h1_) [] [none,none] [] [(5,Iz v11)] [] [] 4 ?_;refine SR [] [none,none,none,none,none,none] fun _ _ g r=>?_;obtain ⟨⟨h2,h3⟩,hF⟩:=AaR hF;have h3_:=Aa3 h3;obtain ⟨v12,h4,h5,h6,hF⟩:=Aad hF;have h6_:=Aas h6;try simp at h6_
  have h5_:=h5;try simp at h5_
  have F1:=A9 h1 h1_ h2 h3 h3_ h4 h5 h6 (A2 h6_ h5_);try simp [F1]
  and_intros
  try any_goals first | omega | (simp [maxLen,F1] <;> omega)
  obtain ⟨v13,h7,hF⟩:=AaN hF;refine AbA (AdG k _ _ _ _ _ _ _ _ _ _ _ h7) (by simp) [1,2,3] [] [] rfl (.cons (.same (by simp [F1])) (.cons (.same (by simp [F1])) (.cons (.same (by simp [F1])) .nil))) (by simp [F1]) (by decide) (by simp) (by simp) (.inl rfl) (by simp) (by simp) ?_;refine TL F1 g r [] [(16,AV.bool v13)] [] [] 4 ?_;by_cases h8 : v13=true
  ·replace hF:=AaZ h8 hF;have h8_:=h8;try simp at h8_
   have F2:=A3 F1 h8 h8_;refine CT (by simp [F2] <;> omega) ?_;refine SW F2 [] [none,none] [0,1,5,7,8,16] [(4,Iz v11)] [] [] 4 ?_;simp only [Option.some.injEq] at hF;subst hF;refine AW.ret (hQ _ _ _ ?_ (AaJ ?_)).1
   ·simp [Try.f88,F2]
   ·simp [F2]
  ·replace hF:=Aaa h8 hF;have h8_:=h8;try simp at h8_
   have F3:=A3 F1 h8 h8_;refine CF (by simp [F3] <;> omega) ?_;refine AW.skip ?_;refine hK169 _ _ _ ?_;refine RG [] [none,none] fun _ _ g r=>?_;try simp [F3]
   and_intros <;> first | exact GK g | apply r | omega | (simp [maxLen,F3] <;> omega)
   refine hK163 _ _ _ ?_;exact NX (k':=n1) (IntKind.wrap .i64 (v11+1)) hF (by simp [F3]) (by simp [F3])
 ·replace hF:=Aaa h1 hF;have h1_:=h1;try simp at h1_
  refine CF (by simp [h1,h1_] <;> omega) ?_;refine AW.exit ?_;try simp
  refine hK131 _ _ _ ?_;refine SW (A2 h1 h1_) [] [none] [0,1,7,8] [(4,Iz (-1))] [] [] 4 ?_;simp only [Option.some.injEq] at hF;subst hF;refine AW.ret (hQ _ _ _ ?_ (AaJ ?_)).1
  ·simp [Try.f88,h1,h1_]
  ·simp [h1,h1_]
end Go.TF
