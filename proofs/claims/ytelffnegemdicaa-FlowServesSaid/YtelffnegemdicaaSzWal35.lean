import Derived.Test.YtelffnegemdicaaSzWal28
import Derived.Test.YtelffnegemdicaaSzWal29
import Derived.Test.YtelffnegemdicaaSzWal30
import Derived.Test.YtelffnegemdicaaSzWal31
import Derived.Test.YtelffnegemdicaaSzWal32
import Derived.Test.YtelffnegemdicaaSzWal34
set_option linter.unusedVariables false
set_option linter.unusedSimpArgs false
set_option maxRecDepth 100000
set_option maxHeartbeats 4000000
namespace Go.TF
open Go Go.Abs Go.Proofs Go.Proofs.YtelffnegemdicaaSvT
theorem Ajm (k : Nat) (v0 : Int) (v1 : (List AaA)) (v2 : (List Int)) (v3 : (List Int)) (v4 : (List Int)) (hF : Aaf k v0 v1 v2 v3=some v4) :
 Aa6 Try.prog 48 [AV.agg [AV.int .i64 v0,Q2 v1,AV.lst false false (List.map (AV.int .i64) v2)],AV.lst false false (List.map (AV.int .i64) v3)] [] (AV.slc 0 0 1 v4.length false) [some (Gi v4)]:=by
 unfold Aaf at hF;refine EN Try.func48 ?_;intro c0 w0 Q h0 hQ
 refine WK [(0,AV.agg [Iz v0,Q2 v1,Lz v2]),(1,Lz v3)] [] 0 (by simp) (by simp) ?_;refine SQ [] [none,none] fun _ _ g r=>?_;try simp
 and_intros <;> first | exact GK g | apply r | omega | (simp [maxLen] <;> omega)
 refine WK [(1,Lz v3),(2,AV.ptr 0 0)] [(0,.cells [Iz v0,Q2 v1,Lz v2])] 1 (by simp) (by simp) ?_;refine SQ [] [none] fun _ _ g r=>?_;try simp
 and_intros <;> first | exact GK g | apply r | omega | (simp [maxLen] <;> omega)
 refine WK [(1,Lz v3),(2,AV.ptr 0 0),(5,AV.lst true true (List.map (AV.int .i64) ([] : List Int)))] [(0,.cells [Iz v0,Q2 v1,Lz v2])] 1 (by simp) (by simp) ?_;refine AW.seq fun K926 hK926=>?_;refine SQ [] [none] fun _ _ g r=>?_;try simp
 and_intros <;> first | exact GK g | apply r | omega | (simp [maxLen] <;> omega)
 refine WK [(1,Lz v3),(2,AV.ptr 0 0),(5,AV.lst true true (List.map (AV.int .i64) ([] : List Int))),(6,Iz 0)] [(0,.cells [Iz v0,Q2 v1,Lz v2])] 1 (by simp) (by simp) ?_;refine AW.block ?_;refine AW.own' 5 1 true (by simp) (by decide) ?_;refine AW.loopF (α:=(Int×(List Int))) (fun n (v5,v6)=>Aaf.L1 k v0 v1 v2 v3 n v5 v6=some v4) (fun (v5,v6)=>[(1,Lz v3),(2,AV.ptr 0 0),(5,AV.slc 1 0 1 v6.length false),(6,Iz v5)]) (fun (v5,v6)=>[(0,.cells [Iz v0,Q2 v1,Lz v2]),(1,Gi v6)]) 2 k ((0,([] : List Int))) hF (by simp) (by simp) (by simp) ?_;rintro (_|n1) ⟨v5,v6⟩ hF K961 hK961
 ·try dsimp only at hF
  rw [Aaf.L1] at hF; cases hF
 try dsimp only at hF
 rw [Aaf.L1] at hF;refine AW.seq fun K963 hK963=>?_;refine SQ [] [none,none,none,none] fun _ _ g r=>?_;try simp
 and_intros <;> first | exact GK g | apply r | omega | (simp [maxLen] <;> omega)
 refine WK [(1,Lz v3),(2,AV.ptr 0 0),(5,AV.slc 1 0 1 v6.length false),(6,Iz v5),(13,AV.bool (decide (v5<v0)))] [(0,.cells [Iz v0,Q2 v1,Lz v2]),(1,Gi v6)] 2 (by simp) (by simp) ?_;by_cases h1 : v5<v0
 ·replace hF:=AaW h1 hF;have h1_:=h1;try simp at h1_
  refine CT (by simp [h1,h1_] <;> omega) ?_;refine AW.skip ?_;refine hK963 _ _ _ ?_;refine AW.midF (α:=(List Int)) (fun v7=>Aaf.J2 k v5 (fun v5_ v6_=>Aaf.L1 k v0 v1 v2 v3 n1 v5_ v6_) v7=some v4) (fun v7=>[(1,Lz v3),(2,AV.ptr 0 0),(5,AV.slc 1 0 1 v7.length false),(6,Iz v5)]) (fun v7=>[(0,.cells [Iz v0,Q2 v1,Lz v2]),(1,Gi v7)]) 2 (fun K969 hK969=>?_) ?_
  ·refine AW.block ?_;refine SQ [] [none,none,none,none] fun _ _ g r=>?_;obtain ⟨h2,hF⟩:=AaY hF;have h2_:=h2;try simp at h2_
   have F1:=A3 h1 h1_ h2;try simp [F1]
   and_intros <;> first | exact GK g | apply r | omega | (simp [maxLen,F1] <;> omega)
   refine WK [(1,Lz v3),(2,AV.ptr 0 0),(5,AV.slc 2 0 1 ((v6++([-1] : List Int)).length) false),(6,Iz v5)] [(0,.cells [Iz v0,Q2 v1,Lz v2]),(2,Gi (v6++([-1] : List Int)))] 3 (by simp [F1] <;> omega) (by simp [F1]) ?_;refine SQ [] [none,none,none,none,some (22,true),some (22,true),some (22,true),some (22,true),some (22,true),none] fun _ _ g r=>?_;try simp [F1]
   and_intros
   try any_goals first | omega | (simp [maxLen,F1] <;> omega)
   obtain ⟨v8,h3,hF⟩:=AaO hF;refine AC (AcI k _ _ _ h3) (.cons (.same (by simp [F1])) (.cons (.same (by simp [F1])) .nil)) ?_;by_cases h4 : v8=true
   ·replace hF:=AaW h4 hF;have h4_:=h4;try simp at h4_
    have F2:=A3 F1 h4 h4_;try simp [F2]
    and_intros
    try any_goals first | omega | (simp [maxLen,F2] <;> omega)
    obtain ⟨v9,h5,hF⟩:=AaO hF;refine AC (AcI k _ _ _ h5) (.cons (.same (by simp [F2])) (.cons (.same (by simp [F2])) .nil)) ?_;try simp [F2]
    and_intros <;> first | exact GK g | apply r | omega | (simp [maxLen,F2] <;> omega)
    refine WK [(1,Lz v3),(2,AV.ptr 0 0),(5,AV.slc 2 0 1 ((v6++([-1] : List Int)).length) false),(6,Iz v5),(28,AV.bool (!v9))] [(0,.cells [Iz v0,Q2 v1,Lz v2]),(2,Gi (v6++([-1] : List Int)))] 3 (by simp [F2] <;> omega) (by simp [F2]) ?_;by_cases h6 : (!v9)=true
    ·replace hF:=AaW h6 hF;have h6_:=h6;try simp at h6_
     have F3:=A3 F2 h6 h6_;refine CT (by simp [F3] <;> omega) ?_;refine RG [] [none,none,none,none] fun _ _ g r=>?_;obtain ⟨⟨h7,h8⟩,hF⟩:=AaY hF;have h8_:=AbE h8;have h8s:=h8;try simp at h8s
     have F4:=A5 F3 h7 h8 h8_ h8s;try simp [F4]
     and_intros <;> first | exact GK g | apply r | omega | (simp [maxLen,F4] <;> omega)
     refine hK969 _ _ _ ?_;refine RN h0 [(0,0),(1,2)] [(1,Lz v3),(2,AV.ptr 0 0),(5,AV.slc 1 0 1 (((v6++([-1] : List Int)).set (v5).toNat 0).length) false),(6,Iz v5)] [(0,.cells [Iz v0,Q2 v1,Lz v2]),(1,Gi ((v6++([-1] : List Int)).set (v5).toNat 0))] 2 (by simp [F4] <;> omega) (by simp [F4]) ?_;exact JN ((v6++([-1] : List Int)).set (v5).toNat 0) hF (by simp [F4]) (by simp [F4])
    ·replace hF:=AaX h6 hF;have h6_:=h6;try simp at h6_
     have F5:=A3 F2 h6 h6_;refine CF (by simp [F5] <;> omega) ?_;refine AW.skip ?_;refine hK969 _ _ _ ?_;refine RN h0 [(0,0),(1,2)] [(1,Lz v3),(2,AV.ptr 0 0),(5,AV.slc 1 0 1 ((v6++([-1] : List Int)).length) false),(6,Iz v5)] [(0,.cells [Iz v0,Q2 v1,Lz v2]),(1,Gi (v6++([-1] : List Int)))] 2 (by simp [F5]) (by simp [F5]) ?_;exact JN (v6++([-1] : List Int)) hF (by simp [F5]) (by simp [F5])
   ·replace hF:=AaX h4 hF;have h4_:=h4;try simp at h4_
    have F6:=A3 F1 h4 h4_;try simp [F6]
    and_intros <;> first | exact GK g | apply r | omega | (simp [maxLen,F6] <;> omega)
    refine WK [(1,Lz v3),(2,AV.ptr 0 0),(5,AV.slc 2 0 1 ((v6++([-1] : List Int)).length) false),(6,Iz v5),(28,AV.bool false)] [(0,.cells [Iz v0,Q2 v1,Lz v2]),(2,Gi (v6++([-1] : List Int)))] 3 (by simp [F6] <;> omega) (by simp [F6]) ?_;refine CF (by simp [F6]) ?_;refine AW.skip ?_;refine hK969 _ _ _ ?_;refine RN h0 [(0,0),(1,2)] [(1,Lz v3),(2,AV.ptr 0 0),(5,AV.slc 1 0 1 ((v6++([-1] : List Int)).length) false),(6,Iz v5)] [(0,.cells [Iz v0,Q2 v1,Lz v2]),(1,Gi (v6++([-1] : List Int)))] 2 (by simp [F6]) (by simp [F6]) ?_;exact JN (v6++([-1] : List Int)) hF (by simp [F6]) (by simp [F6])
  ·rintro v7 hF
   try dsimp only at hF
   unfold Aaf.J2 at hF;refine RG [] [none,none,none] fun _ _ g r=>?_;try simp [h1,h1_]
   and_intros <;> first | exact GK g | apply r | omega | (simp [h1,h1_,maxLen] <;> omega)
   refine hK961 _ _ _ ?_;exact NX (k':=n1) ((IntKind.wrap .i64 (v5+1),v7)) hF (by simp [h1,h1_]) (by simp [h1,h1_])
 ·replace hF:=AaX h1 hF;have h1_:=h1;try simp at h1_
  refine CF (by simp [h1,h1_] <;> omega) ?_;refine AW.exit ?_;try simp
  refine hK926 _ _ _ ?_;refine AW.seq fun K1363 hK1363=>?_;refine SQ [] [none] fun _ _ g r=>?_;try simp [h1,h1_]
  and_intros <;> first | exact GK g | apply r | omega | (simp [h1,h1_,maxLen] <;> omega)
  refine WK [(2,AV.ptr 0 0),(5,AV.slc 1 0 1 v6.length false),(7,Iz 0)] [(0,.cells [Iz v0,Q2 v1,Lz v2]),(1,Gi v6)] 2 (by simp [h1,h1_]) (by simp [h1,h1_]) ?_;refine AW.block ?_;refine AW.loopF (α:=(Int×(List Int))) (fun n (v10,v11)=>Aaf.L3 k v0 v1 n v10 v11=some v4) (fun (v10,v11)=>[(2,AV.ptr 0 0),(5,AV.slc 1 0 1 v11.length false),(7,Iz v10)]) (fun (v10,v11)=>[(0,.cells [Iz v0,Q2 v1,Lz v2]),(1,Gi v11)]) 2 k ((0,v6)) hF (by simp [h1,h1_]) (by simp [h1,h1_]) (by simp) ?_;rintro (_|n3) ⟨v10,v11⟩ hF K1656 hK1656
  ·try dsimp only at hF
   rw [Aaf.L3] at hF; cases hF
  try dsimp only at hF
  rw [Aaf.L3] at hF;refine AW.seq fun K1658 hK1658=>?_;refine SQ [] [none,none,none,none] fun _ _ g r=>?_;try simp [h1,h1_]
  and_intros <;> first | exact GK g | apply r | omega | (simp [h1,h1_,maxLen] <;> omega)
  refine WK [(2,AV.ptr 0 0),(5,AV.slc 1 0 1 v11.length false),(7,Iz v10),(35,AV.bool (decide (v10<v0)))] [(0,.cells [Iz v0,Q2 v1,Lz v2]),(1,Gi v11)] 2 (by simp [h1,h1_]) (by simp [h1,h1_]) ?_;by_cases h9 : v10<v0
  ·replace hF:=AaW h9 hF;have h9_:=h9;try simp at h9_
   have F7:=A4 h1 h1_ h9 h9_;refine CT (by simp [F7] <;> omega) ?_;refine AW.skip ?_;refine hK1658 _ _ _ ?_;refine AW.seq fun K1706 hK1706=>?_;refine AW.block ?_;refine SQ [] [none] fun _ _ g r=>?_;try simp [F7]
   and_intros <;> first | exact GK g | apply r | omega | (simp [maxLen,F7] <;> omega)
   refine WK [(2,AV.ptr 0 0),(5,AV.slc 1 0 1 v11.length false),(7,Iz v10),(8,Iz 0)] [(0,.cells [Iz v0,Q2 v1,Lz v2]),(1,Gi v11)] 2 (by simp [F7]) (by simp [F7]) ?_;refine AW.block ?_;refine AW.loopF (α:=(Int×(List Int))) (fun n (v12,v13)=>Aaf.L4 k v1 v10 (fun v10_ v11_=>Aaf.L3 k v0 v1 n3 v10_ v11_) n v12 v13=some v4) (fun (v12,v13)=>[(2,AV.ptr 0 0),(5,AV.slc 1 0 1 v13.length false),(7,Iz v10),(8,Iz v12)]) (fun (v12,v13)=>[(0,.cells [Iz v0,Q2 v1,Lz v2]),(1,Gi v13)]) 2 k ((0,v11)) hF (by simp [F7]) (by simp [F7]) (by simp) ?_;rintro (_|n4) ⟨v12,v13⟩ hF K1741 hK1741
   ·try dsimp only at hF
    rw [Aaf.L4] at hF; cases hF
   try dsimp only at hF
   rw [Aaf.L4] at hF;refine AW.seq fun K1743 hK1743=>?_;refine SQ [] [none,none,none,none,none] fun _ _ g r=>?_;try simp [F7]
   and_intros <;> first | exact GK g | apply r | omega | (simp [maxLen,F7] <;> omega)
   refine WK [(2,AV.ptr 0 0),(5,AV.slc 1 0 1 v13.length false),(7,Iz v10),(8,Iz v12),(42,AV.bool (decide (v12<(v1.length : Int))))] [(0,.cells [Iz v0,Q2 v1,Lz v2]),(1,Gi v13)] 2 (by simp [F7]) (by simp [F7]) ?_;by_cases h10 : v12<(v1.length : Int)
   ·replace hF:=AaW h10 hF;have h10_:=h10;try simp at h10_
    have F8:=A3 F7 h10 h10_;refine CT (by simp [F8] <;> omega) ?_;refine AW.skip ?_;refine hK1743 _ _ _ ?_;refine AW.midF (α:=(List Int)) (fun v14=>Aaf.J5 k v12 (fun v12_ v13_=>Aaf.L4 k v1 v10 (fun v10_ v11_=>Aaf.L3 k v0 v1 n3 v10_ v11_) n4 v12_ v13_) v14=some v4) (fun v14=>[(2,AV.ptr 0 0),(5,AV.slc 1 0 1 v14.length false),(7,Iz v10),(8,Iz v12)]) (fun v14=>[(0,.cells [Iz v0,Q2 v1,Lz v2]),(1,Gi v14)]) 2 (fun K1749 hK1749=>?_) ?_
    ·refine AW.block ?_;refine SQ [] [none,none,none,none,none,none,none] fun _ _ g r=>?_;obtain ⟨v15,h11,h12,h13,hF⟩:=AaZ hF;have h13_:=Aao h13;try simp at h13_
     have h12_:=h12;try simp at h12_
     have F9:=A6 F8 h11 h12 h13 h13_ h12_;try simp [F9]
     and_intros <;> first | exact GK g | apply r | omega | (simp [maxLen,F9] <;> omega)
     refine WK [(2,AV.ptr 0 0),(5,AV.slc 1 0 1 v13.length false),(7,Iz v10),(8,Iz v12),(9,AV.ptr 2 0)] [(0,.cells [Iz v0,Q2 v1,Lz v2]),(1,Gi v13),(2,.cells [Iz v15.From,Iz v15.To,Iz v15.Level])] 3 (by simp [F9]) (by simp [F9]) ?_;refine SQ [] [none,none,none,none,none,none,none,none,some (57,true),some (57,true),some (57,true),some (57,true),some (57,true),some (57,true),none] fun _ _ g r=>?_;obtain ⟨⟨h14,h15⟩,hF⟩:=AaY hF;have h15_:=AbE h15;obtain ⟨v16,h16,h17,h18,hF⟩:=AaZ hF;have h18_:=Aao h18;try simp at h18_
     have h17_:=h17;try simp at h17_
     by_cases h19 : v16=v10
     ·replace hF:=AaW h19 hF;have h19q : v16=v10:=h19;have h19_:=Abn h19q;have h19__:=Abm h19q;obtain ⟨⟨h20,h21⟩,hF⟩:=AaY hF;have h21_:=AbE h21;obtain ⟨v17,h22,h23,h24,hF⟩:=AaZ hF;have h24_:=Aao h24;try simp at h24_
      have h23_:=h23;try simp at h23_
      have F10:=A9 F9 h14 h15 h15_ h16 h17 h18 h18_ (A9 h17_ h19_ h19__ h20 h21 h21_ h22 h23 (A3 h24 h24_ h23_));try simp [F10]
      and_intros <;> first | exact GK g | apply r | omega | (simp [maxLen,F10] <;> omega)
      refine WK [(2,AV.ptr 0 0),(5,AV.slc 1 0 1 v13.length false),(7,Iz v10),(8,Iz v12),(9,AV.ptr 2 0),(64,AV.bool (v17==(-1)))] [(0,.cells [Iz v0,Q2 v1,Lz v2]),(1,Gi v13),(2,.cells [Iz v15.From,Iz v15.To,Iz v15.Level])] 3 (by simp [F10]) (by simp [F10]) ?_;by_cases h25 : v17=(-1)
      ·replace hF:=AaW h25 hF;have h25q : v17=(-1):=h25;have h25_:=Abn h25q;have h25__:=Abm h25q;refine CT (by simp [F10,h25_,h25__,h25q] <;> omega) ?_;refine RG [] [none,none,none,none,none,none,none] fun _ _ g r=>?_;obtain ⟨⟨h26,h27⟩,hF⟩:=AaY hF;have h27_:=AbE h27;have F11:=A7 F10 h25_ h25__ h25q h26 h27 h27_;try simp [F11]
       and_intros <;> first | exact GK g | apply r | omega | (simp [maxLen,F11] <;> omega)
       refine hK1749 _ _ _ ?_;refine RN h0 [(0,0),(1,1)] [(2,AV.ptr 0 0),(5,AV.slc 1 0 1 ((v13.set (v15.To).toNat (IntKind.wrap .i64 (v10+1))).length) false),(7,Iz v10),(8,Iz v12)] [(0,.cells [Iz v0,Q2 v1,Lz v2]),(1,Gi (v13.set (v15.To).toNat (IntKind.wrap .i64 (v10+1))))] 2 (by simp [F11]) (by simp [F11]) ?_;exact JN (v13.set (v15.To).toNat (IntKind.wrap .i64 (v10+1))) hF (by simp [F11]) (by simp [F11])
      ·replace hF:=AaX h25 hF;have h25_:=Abj h25;have h25__:=Abk h25;have F12:=A4 F10 h25 h25_ h25__;refine CF (by simp [F12] <;> omega) ?_;refine AW.skip ?_;refine hK1749 _ _ _ ?_;refine RN h0 [(0,0),(1,1)] [(2,AV.ptr 0 0),(5,AV.slc 1 0 1 v13.length false),(7,Iz v10),(8,Iz v12)] [(0,.cells [Iz v0,Q2 v1,Lz v2]),(1,Gi v13)] 2 (by simp [F12]) (by simp [F12]) ?_;exact JN (v13) hF (by simp [F12]) (by simp [F12])
     ·replace hF:=AaX h19 hF;have h19_:=Abj h19;have h19__:=Abk h19;have F13:=A9 F9 h14 h15 h15_ h16 h17 h18 h18_ (A4 h17_ h19 h19_ h19__);try simp [F13]
      and_intros <;> first | exact GK g | apply r | omega | (simp [maxLen,F13] <;> omega)
      refine WK [(2,AV.ptr 0 0),(5,AV.slc 1 0 1 v13.length false),(7,Iz v10),(8,Iz v12),(9,AV.ptr 2 0),(64,AV.bool false)] [(0,.cells [Iz v0,Q2 v1,Lz v2]),(1,Gi v13),(2,.cells [Iz v15.From,Iz v15.To,Iz v15.Level])] 3 (by simp [F13]) (by simp [F13]) ?_;refine CF (by simp [F13]) ?_;refine AW.skip ?_;refine hK1749 _ _ _ ?_;refine RN h0 [(0,0),(1,1)] [(2,AV.ptr 0 0),(5,AV.slc 1 0 1 v13.length false),(7,Iz v10),(8,Iz v12)] [(0,.cells [Iz v0,Q2 v1,Lz v2]),(1,Gi v13)] 2 (by simp [F13]) (by simp [F13]) ?_;exact JN (v13) hF (by simp [F13]) (by simp [F13])
    ·rintro v14 hF
     try dsimp only at hF
     unfold Aaf.J5 at hF;refine RG [] [none,none,none] fun _ _ g r=>?_;try simp [F8]
     and_intros <;> first | exact GK g | apply r | omega | (simp [maxLen,F8] <;> omega)
     refine hK1741 _ _ _ ?_;exact NX (k':=n4) ((IntKind.wrap .i64 (v12+1),v14)) hF (by simp [F8]) (by simp [F8])
   ·replace hF:=AaX h10 hF;have h10_:=h10;try simp at h10_
    have F14:=A3 F7 h10 h10_;refine CF (by simp [F14] <;> omega) ?_;refine AW.exit ?_;try simp
    refine hK1706 _ _ _ ?_;refine RG [] [none,none,none] fun _ _ g r=>?_;try simp [F14]
    and_intros <;> first | exact GK g | apply r | omega | (simp [maxLen,F14] <;> omega)
    refine hK1656 _ _ _ ?_;exact NX (k':=n3) ((IntKind.wrap .i64 (v10+1),v13)) hF (by simp [F14]) (by simp [F14])
  ·replace hF:=AaX h9 hF;have h9_:=h9;try simp at h9_
   have F15:=A4 h1 h1_ h9 h9_;refine CF (by simp [F15] <;> omega) ?_;refine AW.exit ?_;try simp
   refine hK1363 _ _ _ ?_;refine SQ [] [none,none] fun _ _ g r=>?_;try simp [F15]
   and_intros <;> first | exact GK g | apply r | omega | (simp [maxLen,F15] <;> omega)
   refine RM h0 [(0,1)] [(4,AV.slc 0 0 1 v11.length false)] [(0,Gi v11)] 1 (by simp [F15]) (by simp [F15]) ?_;simp only [Option.some.injEq] at hF;subst hF;refine AW.ret (hQ _ _ _ ?_ (AaE ?_)).1
   ·simp [Try.f48,F15]
   ·simp [F15]
theorem Ak3 (k : Nat) (v0 : (List Int)) (v1 : (List Int)) (v2 : Int) (v3 : Int) (v4 : Int) (hF : Afq k v0 v1 v2 v3=some v4) :
 Aa6 Try.prog 50 [AV.agg [AV.lst false false (List.map (AV.int .i64) v0),AV.lst false false (List.map (AV.int .i64) v1),AV.int .i64 v2],AV.int .i64 v3] [] (AV.int .i64 v4) []:=by
 unfold Afq at hF;refine EN Try.func50 ?_;intro c0 w0 Q h0 hQ
 refine WK [(0,AV.agg [Lz v0,Lz v1,Iz v2]),(1,Iz v3)] [] 0 (by simp) (by simp) ?_;refine SQ [] [none,none] fun _ _ g r=>?_;try simp
 and_intros <;> first | exact GK g | apply r | omega | (simp [maxLen] <;> omega)
 refine WK [(1,Iz v3),(2,AV.ptr 0 0)] [(0,.cells [Lz v0,Lz v1,Iz v2])] 1 (by simp) (by simp) ?_;refine AW.seq fun K16 hK16=>?_;refine SQ [] [none,none] fun _ _ g r=>?_;try simp
 and_intros <;> first | exact GK g | apply r | omega | (simp [maxLen] <;> omega)
 refine WK [(1,Iz v3),(2,AV.ptr 0 0),(6,AV.bool (decide (v3<0)))] [(0,.cells [Lz v0,Lz v1,Iz v2])] 1 (by simp) (by simp) ?_;by_cases h1 : v3<0
 ·replace hF:=AaW h1 hF;have h1_:=h1;try simp at h1_
  refine CT (by simp [h1,h1_] <;> omega) ?_;refine SQ [] [none] fun _ _ g r=>?_;try simp [h1,h1_]
  and_intros <;> first | exact GK g | apply r | omega | (simp [h1,h1_,maxLen] <;> omega)
  refine WK [(4,Iz 0)] [] 1 (by simp [h1,h1_]) (by simp [h1,h1_]) ?_;simp only [Option.some.injEq] at hF;subst hF;refine AW.ret (hQ _ _ _ ?_ (AaE ?_)).1
  ·simp [Try.f50,h1,h1_]
  ·simp [h1,h1_]
 ·replace hF:=AaX h1 hF;have h1_:=h1;try simp at h1_
  refine CF (by simp [h1,h1_] <;> omega) ?_;refine AW.skip ?_;refine hK16 _ _ _ ?_;refine AW.seq fun K21 hK21=>?_;refine SQ [] [none,none,none,none,none] fun _ _ g r=>?_;try simp [h1,h1_]
  and_intros <;> first | exact GK g | apply r | omega | (simp [h1,h1_,maxLen] <;> omega)
  refine WK [(1,Iz v3),(2,AV.ptr 0 0),(11,AV.bool (decide (v3<(v1.length : Int))))] [(0,.cells [Lz v0,Lz v1,Iz v2])] 1 (by simp [h1,h1_]) (by simp [h1,h1_]) ?_;by_cases h2 : v3<(v1.length : Int)
  ·replace hF:=AaW h2 hF;have h2_:=h2;try simp at h2_
   have F1:=A4 h1 h1_ h2 h2_;refine CT (by simp [F1] <;> omega) ?_;refine SQ [] [none,none,none,none,none,none] fun _ _ g r=>?_;obtain ⟨v5,h3,h4,h5,hF⟩:=AaZ hF;have h5_:=Aao h5;try simp at h5_
   have h4_:=h4;try simp at h4_
   have F2:=A6 F1 h3 h4 h5 h5_ h4_;try simp [F2]
   and_intros <;> first | exact GK g | apply r | omega | (simp [maxLen,F2] <;> omega)
   refine WK [(4,Iz v5)] [] 1 (by simp [F2]) (by simp [F2]) ?_;simp only [Option.some.injEq] at hF;subst hF;refine AW.ret (hQ _ _ _ ?_ (AaE ?_)).1
   ·simp [Try.f50,F2]
   ·simp [F2]
  ·replace hF:=AaX h2 hF;have h2_:=h2;try simp at h2_
   have F3:=A4 h1 h1_ h2 h2_;refine CF (by simp [F3] <;> omega) ?_;refine AW.skip ?_;refine hK21 _ _ _ ?_;refine SQ [] [none] fun _ _ g r=>?_;try simp [F3]
   and_intros <;> first | exact GK g | apply r | omega | (simp [maxLen,F3] <;> omega)
   refine WK [(4,Iz 1)] [] 1 (by simp [F3]) (by simp [F3]) ?_;simp only [Option.some.injEq] at hF;subst hF;refine AW.ret (hQ _ _ _ ?_ (AaE ?_)).1
   ·simp [Try.f50,F3]
   ·simp [F3]
theorem Ajl (k : Nat) (v0 : Int) (v1 : (List AaA)) (v2 : (List Int)) (v3 : (List Int)) (v4 : (List Int)) (v5 : Int) (v6 : (List Int)) (hF : Ab7 k v0 v1 v2 v3 v4 v5=some v6) :
 Aa6 Try.prog 18 [AV.agg [AV.int .i64 v0,Q2 v1,AV.lst false false (List.map (AV.int .i64) v2)],AV.agg [AV.lst false false (List.map (AV.int .i64) v3),AV.lst false false (List.map (AV.int .i64) v4),AV.int .i64 v5]] [] (AV.slc 0 0 1 v6.length false) [some (Gi v6)]:=by
 unfold Ab7 at hF;refine EN Try.func18 ?_;intro c0 w0 Q h0 hQ
 refine WK [(0,AV.agg [Iz v0,Q2 v1,Lz v2]),(1,AV.agg [Lz v3,Lz v4,Iz v5])] [] 0 (by simp) (by simp) ?_;refine SQ [] [none,none,none] fun _ _ g r=>?_;try simp
 and_intros <;> first | exact GK g | apply r | omega | (simp [maxLen] <;> omega)
 refine WK [(2,AV.ptr 0 0),(3,AV.ptr 1 0)] [(0,.cells [Iz v0,Q2 v1,Lz v2]),(1,.cells [Lz v3,Lz v4,Iz v5])] 2 (by simp) (by simp) ?_;refine SQ [] [none,none,none,none,none,none,none,none] fun _ _ g r=>?_;try simp
 and_intros
 try any_goals first | omega | (simp [maxLen] <;> omega)
 obtain ⟨v7,v8,v9,h1,hF⟩:=Adm hF;refine AC (Ah0 k _ _ _ _ _ _ _ h1) (.cons (.same (by simp)) (.cons (.same (by simp)) .nil)) ?_;try simp
 and_intros
 try any_goals first | omega | (simp [maxLen] <;> omega)
 obtain ⟨v10,h2,hF⟩:=AaO hF;refine Aa2 (Ajm k _ _ _ _ _ h2) (by simp) [] [2] [] rfl (.cons (.agg (.cons (.same (by simp)) (.cons (Coe.l (o := .grow (AaL (List.map AaA.av v8))) (by simp) rfl (by simp) (by simp [AdK]) (by simp) (by simp)) (.cons (.same (by simp)) .nil)))) (.cons (.same (by simp)) .nil)) (by simp) (by decide) (by simp) (by simp) (.inr ⟨by simp,by simp⟩) (by simp) (by simp) ?_;try simp
 and_intros <;> first | exact GK g | apply r | omega | (simp [maxLen] <;> omega)
 refine WK [(3,AV.ptr 1 0),(5,AV.slc 3 0 1 v10.length false)] [(1,.cells [Lz v3,Lz v4,Iz v5]),(3,Gi v10)] 4 (by simp) (by simp) ?_;refine AW.frz 3 (o:=Gi v10) (by simp) rfl [(5,Lz v10)] [] ⟨(.l (by simp) (by simp) (by simp) (by simp)),trivial⟩ trivial ?_;refine WK [(3,AV.ptr 1 0),(5,Lz v10)] [(1,.cells [Lz v3,Lz v4,Iz v5])] 4 (by simp) (by simp) ?_;refine SQ [] [none] fun _ _ g r=>?_;try simp
 and_intros <;> first | exact GK g | apply r | omega | (simp [maxLen] <;> omega)
 refine WK [(3,AV.ptr 1 0),(5,Lz v10),(6,AV.lst true true (List.map (AV.int .i64) ([] : List Int)))] [(1,.cells [Lz v3,Lz v4,Iz v5])] 4 (by simp) (by simp) ?_;refine AW.seq fun K99 hK99=>?_;refine SQ [] [none] fun _ _ g r=>?_;try simp
 and_intros <;> first | exact GK g | apply r | omega | (simp [maxLen] <;> omega)
 refine WK [(3,AV.ptr 1 0),(5,Lz v10),(6,AV.lst true true (List.map (AV.int .i64) ([] : List Int))),(7,Iz 0)] [(1,.cells [Lz v3,Lz v4,Iz v5])] 4 (by simp) (by simp) ?_;refine AW.block ?_;refine AW.own' 6 1 true (by simp) (by decide) ?_;refine RM h0 [(0,1),(1,4)] [(3,AV.ptr 0 0),(5,Lz v10),(6,AV.slc 1 0 1 (([] : List Int).length) false),(7,Iz 0)] [(0,.cells [Lz v3,Lz v4,Iz v5]),(1,Gi ([] : List Int))] 2 (by simp) (by simp) ?_;refine AW.loopF (α:=(Int×(List Int))) (fun n (v11,v12)=>Ab7.L1 k v3 v4 v5 v10 n v11 v12=some v6) (fun (v11,v12)=>[(3,AV.ptr 0 0),(5,Lz v10),(6,AV.slc 1 0 1 v12.length false),(7,Iz v11)]) (fun (v11,v12)=>[(0,.cells [Lz v3,Lz v4,Iz v5]),(1,Gi v12)]) 2 k ((0,([] : List Int))) hF (by simp) (by simp) (by simp) ?_;rintro (_|n1) ⟨v11,v12⟩ hF K122 hK122
 ·try dsimp only at hF
  rw [Ab7.L1] at hF; cases hF
 try dsimp only at hF
 rw [Ab7.L1] at hF;refine AW.seq fun K124 hK124=>?_;refine SQ [] [none,none,none,none] fun _ _ g r=>?_;try simp
 and_intros <;> first | exact GK g | apply r | omega | (simp [maxLen] <;> omega)
 refine WK [(3,AV.ptr 0 0),(5,Lz v10),(6,AV.slc 1 0 1 v12.length false),(7,Iz v11),(18,AV.bool (decide (v11<(v10.length : Int))))] [(0,.cells [Lz v3,Lz v4,Iz v5]),(1,Gi v12)] 2 (by simp) (by simp) ?_;by_cases h3 : v11<(v10.length : Int)
 ·replace hF:=AaW h3 hF;have h3_:=h3;try simp at h3_
  refine CT (by simp [h3,h3_] <;> omega) ?_;refine AW.skip ?_;refine hK124 _ _ _ ?_;refine AW.seq fun K127 hK127=>?_;refine AW.block ?_;refine RG [] [none,none,none,none,none,none,none,none,none,none] fun _ _ g r=>?_;obtain ⟨v13,h4,h5,h6,hF⟩:=AaZ hF;have h6_:=Aao h6;try simp at h6_
  have h5_:=h5;try simp at h5_
  have F1:=A7 h3 h3_ h4 h5 h6 h6_ h5_;try simp [F1]
  and_intros
  try any_goals first | omega | (simp [maxLen,F1] <;> omega)
  obtain ⟨v14,h7,hF⟩:=AaO hF;refine AC (Ak3 k _ _ _ _ _ h7) (.cons (.same (by simp [F1])) (.cons (.same (by simp [F1])) .nil)) ?_;obtain ⟨h8,hF⟩:=AaY hF;have h8_:=h8;try simp at h8_
  have F2:=A2 F1 h8;try simp [F2]
  and_intros <;> first | exact GK g | apply r | omega | (simp [maxLen,F2] <;> omega)
  refine hK127 _ _ _ ?_;refine WK [(3,AV.ptr 0 0),(5,Lz v10),(6,AV.slc 2 0 1 ((v12++([v14] : List Int)).length) false),(7,Iz v11)] [(0,.cells [Lz v3,Lz v4,Iz v5]),(2,Gi (v12++([v14] : List Int)))] 3 (by simp [F2] <;> omega) (by simp [F2]) ?_;refine RG [] [none,none,none] fun _ _ g r=>?_;try simp [F2]
  and_intros <;> first | exact GK g | apply r | omega | (simp [maxLen,F2] <;> omega)
  refine hK122 _ _ _ ?_;refine RN h0 [(0,0),(1,2)] [(3,AV.ptr 0 0),(5,Lz v10),(6,AV.slc 1 0 1 ((v12++([v14] : List Int)).length) false),(7,Iz (IntKind.wrap .i64 (v11+1)))] [(0,.cells [Lz v3,Lz v4,Iz v5]),(1,Gi (v12++([v14] : List Int)))] 2 (by simp [F2] <;> omega) (by simp [F2]) ?_;exact NX (k':=n1) ((IntKind.wrap .i64 (v11+1),v12++([v14] : List Int))) hF (by simp [F2]) (by simp [F2])
 ·replace hF:=AaX h3 hF;have h3_:=h3;try simp at h3_
  refine CF (by simp [h3,h3_] <;> omega) ?_;refine AW.exit ?_;try simp
  refine hK99 _ _ _ ?_;refine SQ [] [none,none] fun _ _ g r=>?_;try simp [h3,h3_]
  and_intros <;> first | exact GK g | apply r | omega | (simp [h3,h3_,maxLen] <;> omega)
  refine RM h0 [(0,1)] [(4,AV.slc 0 0 1 v12.length false)] [(0,Gi v12)] 1 (by simp [h3,h3_]) (by simp [h3,h3_]) ?_;simp only [Option.some.injEq] at hF;subst hF;refine AW.ret (hQ _ _ _ ?_ (AaE ?_)).1
  ·simp [Try.f18,h3,h3_]
  ·simp [h3,h3_]
theorem Ahy (k : Nat) (v0 : Int) (v1 : (List AaC)) (v2 : (List Int)) (v3 : Bool) (hF : Aa7 k v0 v1 v2=some v3) :
 Aa6 Try.prog 51 [AV.agg [AV.int .i64 v0,Q0 v1],AV.lst false false (List.map (AV.int .i64) v2)] [] (AV.bool v3) []:=by
 unfold Aa7 at hF;refine EN Try.func51 ?_;intro c0 w0 Q h0 hQ
 refine WK [(0,AV.agg [Iz v0,Q0 v1]),(1,Lz v2)] [] 0 (by simp [-List.reduceReplicate,AaG,AaH,AaD]) (by simp [-List.reduceReplicate,AaG,AaH,AaD]) ?_;refine SQ [] [none,none] fun _ _ g r=>?_;try simp [-List.reduceReplicate,AaG,AaH,AaD]
 and_intros <;> first | exact GK g | apply r | omega | (simp [-List.reduceReplicate,AaG,AaH,AaD,maxLen] <;> omega)
 refine WK [(1,Lz v2),(2,AV.ptr 0 0)] [(0,.cells [Iz v0,Q0 v1])] 1 (by simp [-List.reduceReplicate,AaG,AaH,AaD]) (by simp [-List.reduceReplicate,AaG,AaH,AaD]) ?_;refine AW.seq fun K281 hK281=>?_;refine SQ [] [none,none,none,none,some (11,false),some (11,false),some (11,false),some (11,false),some (11,false),some (11,false),none] fun _ _ g r=>?_;try simp [-List.reduceReplicate,AaG,AaH,AaD]
 and_intros
 try any_goals first | omega | (simp [-List.reduceReplicate,AaG,AaH,AaD,maxLen] <;> omega)
 obtain ⟨v4,h1,hF⟩:=AaO hF;refine AC (Afe k _ _ _ h1) (.cons (.same (by simp)) .nil) ?_;by_cases h2 : v4≠0
 ·replace hF:=AaW h2 hF;have h2_:=Abj h2;have h2__:=Abk h2;have F1:=A3 h2 h2_ h2__;try simp [-List.reduceReplicate,AaG,AaH,AaD,F1]
  and_intros <;> first | exact GK g | apply r | omega | (simp [-List.reduceReplicate,AaG,AaH,AaD,maxLen,F1] <;> omega)
  refine WK [(1,Lz v2),(2,AV.ptr 0 0),(18,AV.bool true)] [(0,.cells [Iz v0,Q0 v1])] 1 (by simp [-List.reduceReplicate,AaG,AaH,AaD,F1]) (by simp [-List.reduceReplicate,AaG,AaH,AaD,F1]) ?_;refine CT (by simp [-List.reduceReplicate,AaG,AaH,AaD,F1]) ?_;refine SQ [] [none] fun _ _ g r=>?_;try simp [-List.reduceReplicate,AaG,AaH,AaD,F1]
  and_intros <;> first | exact GK g | apply r | omega | (simp [-List.reduceReplicate,AaG,AaH,AaD,maxLen,F1] <;> omega)
  refine WK [(4,AV.bool false)] [] 1 (by simp [-List.reduceReplicate,AaG,AaH,AaD,F1]) (by simp [-List.reduceReplicate,AaG,AaH,AaD,F1]) ?_;simp only [Option.some.injEq] at hF;subst hF;refine AW.ret (hQ _ _ _ ?_ (AaE ?_)).1
  ·simp [Try.f51,F1]
  ·simp [F1]
 ·replace hF:=AaX h2 hF;have h2q : v4=0:=Classical.not_not.1 h2;have h2_:=Abn h2q;have h2__:=Abm h2q;have F2:=A3 h2_ h2__ h2q;try simp [-List.reduceReplicate,AaG,AaH,AaD,F2]
  and_intros <;> first | exact GK g | apply r | omega | (simp [-List.reduceReplicate,AaG,AaH,AaD,maxLen,F2] <;> omega)
  refine WK [(1,Lz v2),(2,AV.ptr 0 0),(18,AV.bool ((v2.length : Int) !=(v1.length : Int)))] [(0,.cells [Iz v0,Q0 v1])] 1 (by simp [-List.reduceReplicate,AaG,AaH,AaD,F2]) (by simp [-List.reduceReplicate,AaG,AaH,AaD,F2]) ?_;by_cases h3 : (v2.length : Int)≠(v1.length : Int)
  ·replace hF:=AaW h3 hF;have h3_:=Abj h3;have h3__:=Abk h3;have F3:=A4 F2 h3 h3_ h3__;refine CT (by simp [-List.reduceReplicate,AaG,AaH,AaD,F3] <;> omega) ?_;refine SQ [] [none] fun _ _ g r=>?_;try simp [-List.reduceReplicate,AaG,AaH,AaD,F3]
   and_intros <;> first | exact GK g | apply r | omega | (simp [-List.reduceReplicate,AaG,AaH,AaD,maxLen,F3] <;> omega)
   refine WK [(4,AV.bool false)] [] 1 (by simp [-List.reduceReplicate,AaG,AaH,AaD,F3]) (by simp [-List.reduceReplicate,AaG,AaH,AaD,F3]) ?_;simp only [Option.some.injEq] at hF;subst hF;refine AW.ret (hQ _ _ _ ?_ (AaE ?_)).1
   ·simp [Try.f51,F3]
   ·simp [F3]
  ·replace hF:=AaX h3 hF;have h3q : (v2.length : Int)=(v1.length : Int):=Classical.not_not.1 h3;have h3_:=Abn h3q;have h3__:=Abm h3q;refine CF (by simp [-List.reduceReplicate,AaG,AaH,AaD,F2,h3_,h3__] <;> omega) ?_;refine AW.skip ?_;refine hK281 _ _ _ ?_;refine SQ [21] [none,none,none,none] fun _ _ g r=>?_;obtain ⟨h4,hF⟩:=AaY hF;have F4:=A4 F2 h3_ h3__ h4;try simp [-List.reduceReplicate,AaG,AaH,AaD,F4]
   and_intros <;> first | exact GK g | apply r | omega | (simp [-List.reduceReplicate,AaG,AaH,AaD,maxLen,F4] <;> omega)
   refine WK [(1,Lz v2),(2,AV.ptr 0 0),(5,AV.slc 1 0 1 ((List.replicate (v0).toNat (0 : Int)).length) true)] [(0,.cells [Iz v0,Q0 v1]),(1,Ci (List.replicate (v0).toNat (0 : Int)))] 2 (by simp [-List.reduceReplicate,AaG,AaH,AaD,F4]) (by simp [-List.reduceReplicate,AaG,AaH,AaD,F4]) ?_;refine AW.seq fun K380 hK380=>?_;refine SQ [] [none] fun _ _ g r=>?_;try simp [-List.reduceReplicate,AaG,AaH,AaD,F4]
   and_intros <;> first | exact GK g | apply r | omega | (simp [-List.reduceReplicate,AaG,AaH,AaD,maxLen,F4] <;> omega)
   refine WK [(1,Lz v2),(2,AV.ptr 0 0),(5,AV.slc 1 0 1 ((List.replicate (v0).toNat (0 : Int)).length) true),(6,Iz 0)] [(0,.cells [Iz v0,Q0 v1]),(1,Ci (List.replicate (v0).toNat (0 : Int)))] 2 (by simp [-List.reduceReplicate,AaG,AaH,AaD,F4]) (by simp [-List.reduceReplicate,AaG,AaH,AaD,F4]) ?_;refine AW.block ?_;refine AW.loopF (α:=(Int×(List Int))) (fun n (v5,v6)=>Aa7.L1 k v0 v1 v2 n v5 v6=some v3) (fun (v5,v6)=>[(1,Lz v2),(2,AV.ptr 0 0),(5,AV.slc 1 0 1 v6.length true),(6,Iz v5)]) (fun (v5,v6)=>[(0,.cells [Iz v0,Q0 v1]),(1,Ci v6)]) 2 k ((0,(List.replicate (v0).toNat (0 : Int)))) hF (by simp [-List.reduceReplicate,AaG,AaH,AaD,F4]) (by simp [-List.reduceReplicate,AaG,AaH,AaD,F4]) (by simp) ?_;rintro (_|n1) ⟨v5,v6⟩ hF K451 hK451
   ·try dsimp only at hF
    rw [Aa7.L1] at hF; cases hF
   try dsimp only at hF
   rw [Aa7.L1] at hF;refine AW.seq fun K453 hK453=>?_;refine SQ [] [none,none,none,none] fun _ _ g r=>?_;try simp [-List.reduceReplicate,AaG,AaH,AaD,F4]
   and_intros <;> first | exact GK g | apply r | omega | (simp [-List.reduceReplicate,AaG,AaH,AaD,maxLen,F4] <;> omega)
   refine WK [(1,Lz v2),(2,AV.ptr 0 0),(5,AV.slc 1 0 1 v6.length true),(6,Iz v5),(25,AV.bool (decide (v5<(v2.length : Int))))] [(0,.cells [Iz v0,Q0 v1]),(1,Ci v6)] 2 (by simp [-List.reduceReplicate,AaG,AaH,AaD,F4]) (by simp [-List.reduceReplicate,AaG,AaH,AaD,F4]) ?_;by_cases h5 : v5<(v2.length : Int)
   ·replace hF:=AaW h5 hF;have h5_:=h5;try simp [-List.reduceReplicate] at h5_
    have F5:=A3 F4 h5 h5_;refine CT (by simp [-List.reduceReplicate,AaG,AaH,AaD,F5] <;> omega) ?_;refine AW.skip ?_;refine hK453 _ _ _ ?_;refine AW.seq fun K464 hK464=>?_;refine AW.block ?_;refine AW.seq fun K468 hK468=>?_;refine SQ [] [none,none,none,none,none,none,some (33,false),some (33,false),some (33,false),some (33,false),some (33,false),some (33,false),some (33,false),some (33,false),some (33,false),some (33,false),some (33,false),none] fun _ _ g r=>?_;obtain ⟨v7,h6,h7,h8,hF⟩:=AaZ hF;have h8_:=Aao h8;try simp [-List.reduceReplicate] at h8_
    have h7_:=h7;try simp [-List.reduceReplicate] at h7_
    by_cases h9 : v7<0
    ·replace hF:=AaW h9 hF;have h9_:=h9;try simp [-List.reduceReplicate] at h9_
     have F6:=A8 F5 h6 h7 h8 h8_ h7_ h9 h9_;try simp [-List.reduceReplicate,AaG,AaH,AaD,F6]
     and_intros <;> first | exact GK g | apply r | omega | (simp [-List.reduceReplicate,AaG,AaH,AaD,maxLen,F6] <;> omega)
     refine WK [(1,Lz v2),(2,AV.ptr 0 0),(5,AV.slc 1 0 1 v6.length true),(6,Iz v5),(45,AV.bool true)] [(0,.cells [Iz v0,Q0 v1]),(1,Ci v6)] 2 (by simp [-List.reduceReplicate,AaG,AaH,AaD,F6]) (by simp [-List.reduceReplicate,AaG,AaH,AaD,F6]) ?_;refine CT (by simp [-List.reduceReplicate,AaG,AaH,AaD,F6]) ?_;refine SQ [] [none] fun _ _ g r=>?_;try simp [-List.reduceReplicate,AaG,AaH,AaD,F6]
     and_intros <;> first | exact GK g | apply r | omega | (simp [-List.reduceReplicate,AaG,AaH,AaD,maxLen,F6] <;> omega)
     refine WK [(4,AV.bool false)] [] 2 (by simp [-List.reduceReplicate,AaG,AaH,AaD,F6]) (by simp [-List.reduceReplicate,AaG,AaH,AaD,F6]) ?_;simp only [Option.some.injEq] at hF;subst hF;refine AW.ret (hQ _ _ _ ?_ (AaE ?_)).1
     ·simp [Try.f51,F6]
     ·simp [F6]
    ·replace hF:=AaX h9 hF;have h9_:=h9;try simp [-List.reduceReplicate] at h9_
     obtain ⟨v8,h10,h11,h12,hF⟩:=AaZ hF;have h12_:=Aao h12;try simp [-List.reduceReplicate] at h12_
     have h11_:=h11;try simp [-List.reduceReplicate] at h11_
     have F7:=A9 F5 h6 h7 h8 h8_ h7_ h9 h9_ (A5 h10 h11 h12 h12_ h11_);try simp [-List.reduceReplicate,AaG,AaH,AaD,F7]
     and_intros <;> first | exact GK g | apply r | omega | (simp [-List.reduceReplicate,AaG,AaH,AaD,maxLen,F7] <;> omega)
     refine WK [(1,Lz v2),(2,AV.ptr 0 0),(5,AV.slc 1 0 1 v6.length true),(6,Iz v5),(45,AV.bool (decide (v8.Cap<v7)))] [(0,.cells [Iz v0,Q0 v1]),(1,Ci v6)] 2 (by simp [-List.reduceReplicate,AaG,AaH,AaD,F7]) (by simp [-List.reduceReplicate,AaG,AaH,AaD,F7]) ?_;by_cases h13 : v8.Cap<v7
     ·replace hF:=AaW h13 hF;have h13_:=h13;try simp [-List.reduceReplicate] at h13_
      have F8:=A3 F7 h13 h13_;refine CT (by simp [-List.reduceReplicate,AaG,AaH,AaD,F8] <;> omega) ?_;refine SQ [] [none] fun _ _ g r=>?_;try simp [-List.reduceReplicate,AaG,AaH,AaD,F8]
      and_intros <;> first | exact GK g | apply r | omega | (simp [-List.reduceReplicate,AaG,AaH,AaD,maxLen,F8] <;> omega)
      refine WK [(4,AV.bool false)] [] 2 (by simp [-List.reduceReplicate,AaG,AaH,AaD,F8]) (by simp [-List.reduceReplicate,AaG,AaH,AaD,F8]) ?_;simp only [Option.some.injEq] at hF;subst hF;refine AW.ret (hQ _ _ _ ?_ (AaE ?_)).1
      ·simp [Try.f51,F8]
      ·simp [F8]
     ·replace hF:=AaX h13 hF;have h13_:=h13;try simp [-List.reduceReplicate] at h13_
      have F9:=A3 F7 h13 h13_;refine CF (by simp [-List.reduceReplicate,AaG,AaH,AaD,F9] <;> omega) ?_;refine AW.skip ?_;refine hK468 _ _ _ ?_;refine SQ [] [none,none,none,none,none,none,none,none,none,none,none,none,none,none,none,none] fun _ _ g r=>?_;obtain ⟨⟨h14,h15⟩,hF⟩:=AaY hF;have h15_:=AbE h15;obtain ⟨v9,h16,h17,h18,hF⟩:=AaZ hF;have h18_:=Aao h18;try simp [-List.reduceReplicate] at h18_
      have h17_:=h17;try simp [-List.reduceReplicate] at h17_
      obtain ⟨⟨h19,h20⟩,hF⟩:=AaY hF;have h20_:=AbE h20;have F10:=A9 F9 h14 h15 h15_ h16 h17 h18 h18_ (A4 h17_ h19 h20 h20_);try simp [-List.reduceReplicate,AaG,AaH,AaD,F10]
      and_intros <;> first | exact GK g | apply r | omega | (simp [-List.reduceReplicate,AaG,AaH,AaD,maxLen,F10] <;> omega)
      refine WK [(1,Lz v2),(2,AV.ptr 0 0),(5,AV.slc 1 0 1 ((v6.set (v8.From).toNat (IntKind.wrap .i64 (v9-v7))).length) true),(6,Iz v5)] [(0,.cells [Iz v0,Q0 v1]),(1,Ci (v6.set (v8.From).toNat (IntKind.wrap .i64 (v9-v7))))] 2 (by simp [-List.reduceReplicate,AaG,AaH,AaD,F10]) (by simp [-List.reduceReplicate,AaG,AaH,AaD,F10]) ?_;refine RG [] [none,none,none,none,none,none,none,none,none,none,none,none,none,none,none,none] fun _ _ g r=>?_;obtain ⟨⟨h21,h22⟩,hF⟩:=AaY hF;have h22_:=AbE h22;obtain ⟨v10,h23,h24,h25,hF⟩:=AaZ hF;have h25_:=Aao h25;try simp [-List.reduceReplicate] at h25_
      have h24_:=h24;try simp [-List.reduceReplicate] at h24_
      have h25__:=Aao (AiQ ((AV.int .i64)) h25);try simp at h25__
      obtain ⟨⟨h26,h27⟩,hF⟩:=AaY hF;have h27_:=AbE h27;have F11:=A9 F10 h21 h22 h22_ h23 h24 h25 h25_ (A5 h24_ h25__ h26 h27 h27_);try simp [-List.reduceReplicate,AaG,AaH,AaD,F11]
      and_intros <;> first | exact GK g | apply r | omega | (simp [-List.reduceReplicate,AaG,AaH,AaD,maxLen,F11] <;> omega)
      refine hK464 _ _ _ ?_;refine WK [(1,Lz v2),(2,AV.ptr 0 0),(5,AV.slc 1 0 1 (((v6.set (v8.From).toNat (IntKind.wrap .i64 (v9-v7))).set (v8.To).toNat (IntKind.wrap .i64 (v10+v7))).length) true),(6,Iz v5)] [(0,.cells [Iz v0,Q0 v1]),(1,Ci ((v6.set (v8.From).toNat (IntKind.wrap .i64 (v9-v7))).set (v8.To).toNat (IntKind.wrap .i64 (v10+v7))))] 2 (by simp [-List.reduceReplicate,AaG,AaH,AaD,F11]) (by simp [-List.reduceReplicate,AaG,AaH,AaD,F11]) ?_;refine RG [] [none,none,none] fun _ _ g r=>?_;try simp [-List.reduceReplicate,AaG,AaH,AaD,F11]
      and_intros <;> first | exact GK g | apply r | omega | (simp [-List.reduceReplicate,AaG,AaH,AaD,maxLen,F11] <;> omega)
      refine hK451 _ _ _ ?_;exact NX (k':=n1) ((IntKind.wrap .i64 (v5+1),(v6.set (v8.From).toNat (IntKind.wrap .i64 (v9-v7))).set (v8.To).toNat (IntKind.wrap .i64 (v10+v7)))) hF (by simp [-List.reduceReplicate,AaG,AaH,AaD,F11]) (by simp [-List.reduceReplicate,AaG,AaH,AaD,F11])
   ·replace hF:=AaX h5 hF;have h5_:=h5;try simp [-List.reduceReplicate] at h5_
    have F12:=A3 F4 h5 h5_;refine CF (by simp [-List.reduceReplicate,AaG,AaH,AaD,F12] <;> omega) ?_;refine AW.exit ?_;try simp [-List.reduceReplicate]
    refine hK380 _ _ _ ?_;refine WK [(2,AV.ptr 0 0),(5,AV.slc 1 0 1 v6.length true)] [(0,.cells [Iz v0,Q0 v1]),(1,Ci v6)] 2 (by simp [-List.reduceReplicate,AaG,AaH,AaD,F12]) (by simp [-List.reduceReplicate,AaG,AaH,AaD,F12]) ?_;refine AW.frz 1 (o:=Ci v6) (by simp [-List.reduceReplicate,AaG,AaH,AaD,F12]) rfl [(5,AV.lst false true (List.map (AV.int .i64) v6))] [] ⟨(.l (by simp) (by simp) (by simp) (by simp)),trivial⟩ trivial ?_;refine WK [(2,AV.ptr 0 0),(5,AV.lst false true (List.map (AV.int .i64) v6))] [(0,.cells [Iz v0,Q0 v1])] 2 (by simp [-List.reduceReplicate,AaG,AaH,AaD,F12]) (by simp [-List.reduceReplicate,AaG,AaH,AaD,F12]) ?_;refine AW.seq fun K513 hK513=>?_;refine SQ [] [none] fun _ _ g r=>?_;try simp [-List.reduceReplicate,AaG,AaH,AaD,F12]
    and_intros <;> first | exact GK g | apply r | omega | (simp [-List.reduceReplicate,AaG,AaH,AaD,maxLen,F12] <;> omega)
    refine WK [(2,AV.ptr 0 0),(5,AV.lst false true (List.map (AV.int .i64) v6)),(7,Iz 2)] [(0,.cells [Iz v0,Q0 v1])] 2 (by simp [-List.reduceReplicate,AaG,AaH,AaD,F12]) (by simp [-List.reduceReplicate,AaG,AaH,AaD,F12]) ?_;refine AW.block ?_;refine RM h0 [(0,0)] [(2,AV.ptr 0 0),(5,AV.lst false true (List.map (AV.int .i64) v6)),(7,Iz 2)] [(0,.cells [Iz v0,Q0 v1])] 1 (by simp [-List.reduceReplicate,AaG,AaH,AaD,F12]) (by simp [-List.reduceReplicate,AaG,AaH,AaD,F12]) ?_;refine AW.loopF (α:=Int) (fun n v11=>Aa7.L2 k v0 v6 n v11=some v3) (fun v11=>[(2,AV.ptr 0 0),(5,AV.lst false true (List.map (AV.int .i64) v6)),(7,Iz v11)]) (fun v11=>[(0,.cells [Iz v0,Q0 v1])]) 1 k (2) hF (by simp [-List.reduceReplicate,AaG,AaH,AaD,F12]) (by simp [-List.reduceReplicate,AaG,AaH,AaD,F12]) (by simp) ?_;rintro (_|n2) v11 hF K542 hK542
    ·try dsimp only at hF
     rw [Aa7.L2] at hF; cases hF
    try dsimp only at hF
    rw [Aa7.L2] at hF;refine AW.seq fun K544 hK544=>?_;refine SQ [] [none,none,none,none] fun _ _ g r=>?_;try simp [-List.reduceReplicate,AaG,AaH,AaD,F12]
    and_intros <;> first | exact GK g | apply r | omega | (simp [-List.reduceReplicate,AaG,AaH,AaD,maxLen,F12] <;> omega)
    refine WK [(2,AV.ptr 0 0),(5,AV.lst false true (List.map (AV.int .i64) v6)),(7,Iz v11),(79,AV.bool (decide (v11<v0)))] [(0,.cells [Iz v0,Q0 v1])] 1 (by simp [-List.reduceReplicate,AaG,AaH,AaD,F12]) (by simp [-List.reduceReplicate,AaG,AaH,AaD,F12]) ?_;by_cases h28 : v11<v0
    ·replace hF:=AaW h28 hF;have h28_:=h28;try simp [-List.reduceReplicate] at h28_
     have F13:=A3 F12 h28 h28_;refine CT (by simp [-List.reduceReplicate,AaG,AaH,AaD,F13] <;> omega) ?_;refine AW.skip ?_;refine hK544 _ _ _ ?_;refine AW.seq fun K548 hK548=>?_;refine AW.block ?_;refine SQ [] [none,none,none,none,none] fun _ _ g r=>?_;obtain ⟨v12,h29,h30,h31,hF⟩:=AaZ hF;have h31_:=Aao h31;try simp [-List.reduceReplicate] at h31_
     have h30_:=h30;try simp [-List.reduceReplicate] at h30_
     have F14:=A6 F13 h29 h30 h31 h31_ h30_;try simp [-List.reduceReplicate,AaG,AaH,AaD,F14]
     and_intros <;> first | exact GK g | apply r | omega | (simp [-List.reduceReplicate,AaG,AaH,AaD,maxLen,F14] <;> omega)
     refine WK [(2,AV.ptr 0 0),(5,AV.lst false true (List.map (AV.int .i64) v6)),(7,Iz v11),(86,AV.bool (v12 !=0))] [(0,.cells [Iz v0,Q0 v1])] 1 (by simp [-List.reduceReplicate,AaG,AaH,AaD,F14]) (by simp [-List.reduceReplicate,AaG,AaH,AaD,F14]) ?_;by_cases h32 : v12≠0
     ·replace hF:=AaW h32 hF;have h32_:=Abj h32;have h32__:=Abk h32;have F15:=A4 F14 h32 h32_ h32__;refine CT (by simp [-List.reduceReplicate,AaG,AaH,AaD,F15] <;> omega) ?_;refine SQ [] [none] fun _ _ g r=>?_;try simp [-List.reduceReplicate,AaG,AaH,AaD,F15]
      and_intros <;> first | exact GK g | apply r | omega | (simp [-List.reduceReplicate,AaG,AaH,AaD,maxLen,F15] <;> omega)
      refine WK [(4,AV.bool false)] [] 1 (by simp [-List.reduceReplicate,AaG,AaH,AaD,F15]) (by simp [-List.reduceReplicate,AaG,AaH,AaD,F15]) ?_;simp only [Option.some.injEq] at hF;subst hF;refine AW.ret (hQ _ _ _ ?_ (AaE ?_)).1
      ·simp [Try.f51,F15]
      ·simp [F15]
     ·replace hF:=AaX h32 hF;have h32q : v12=0:=Classical.not_not.1 h32;have h32_:=Abn h32q;have h32__:=Abm h32q;have F16:=A4 F14 h32_ h32__ h32q;refine CF (by simp [-List.reduceReplicate,AaG,AaH,AaD,F16] <;> omega) ?_;refine AW.skip ?_;refine hK548 _ _ _ ?_;refine RG [] [none,none,none] fun _ _ g r=>?_;try simp [-List.reduceReplicate,AaG,AaH,AaD,F16]
      and_intros <;> first | exact GK g | apply r | omega | (simp [-List.reduceReplicate,AaG,AaH,AaD,maxLen,F16] <;> omega)
      refine hK542 _ _ _ ?_;exact NX (k':=n2) (IntKind.wrap .i64 (v11+1)) hF (by simp [-List.reduceReplicate,AaG,AaH,AaD,F16]) (by simp [-List.reduceReplicate,AaG,AaH,AaD,F16])
    ·replace hF:=AaX h28 hF;have h28_:=h28;try simp [-List.reduceReplicate] at h28_
     have F17:=A3 F12 h28 h28_;refine CF (by simp [-List.reduceReplicate,AaG,AaH,AaD,F17] <;> omega) ?_;refine AW.exit ?_;try simp [-List.reduceReplicate]
     refine hK513 _ _ _ ?_;refine SQ [] [none] fun _ _ g r=>?_;try simp [-List.reduceReplicate,AaG,AaH,AaD,F17]
     and_intros <;> first | exact GK g | apply r | omega | (simp [-List.reduceReplicate,AaG,AaH,AaD,maxLen,F17] <;> omega)
     refine WK [(4,AV.bool true)] [] 1 (by simp [-List.reduceReplicate,AaG,AaH,AaD,F17]) (by simp [-List.reduceReplicate,AaG,AaH,AaD,F17]) ?_;simp only [Option.some.injEq] at hF;subst hF;refine AW.ret (hQ _ _ _ ?_ (AaE ?_)).1
     ·simp [Try.f51,F17]
     ·simp [F17]
theorem Ahx (k : Nat) (v0 : Int) (v1 : (List AaC)) (v2 : (List Int)) (v3 : Int) (hF : Aa9 k v0 v1 v2=some v3) :
 Aa6 Try.prog 21 [AV.agg [AV.int .i64 v0,Q0 v1],AV.lst false false (List.map (AV.int .i64) v2)] [] (AV.int .i64 v3) []:=by
 unfold Aa9 at hF;refine EN Try.func21 ?_;intro c0 w0 Q h0 hQ
 refine WK [(0,AV.agg [Iz v0,Q0 v1]),(1,Lz v2)] [] 0 (by simp) (by simp) ?_;refine SQ [] [none,none] fun _ _ g r=>?_;try simp
 and_intros <;> first | exact GK g | apply r | omega | (simp [maxLen] <;> omega)
 refine WK [(1,Lz v2),(2,AV.ptr 0 0)] [(0,.cells [Iz v0,Q0 v1])] 1 (by simp) (by simp) ?_;refine AW.seq fun K89 hK89=>?_;refine SQ [] [none,none,none,none] fun _ _ g r=>?_;try simp
 and_intros
 try any_goals first | omega | (simp [maxLen] <;> omega)
 obtain ⟨v4,h1,hF⟩:=AaO hF;refine AC (Ahy k _ _ _ _ h1) (.cons (.same (by simp)) (.cons (.same (by simp)) .nil)) ?_;try simp
 and_intros <;> first | exact GK g | apply r | omega | (simp [maxLen] <;> omega)
 refine WK [(1,Lz v2),(2,AV.ptr 0 0),(10,AV.bool (!v4))] [(0,.cells [Iz v0,Q0 v1])] 1 (by simp) (by simp) ?_;by_cases h2 : (!v4)=true
 ·replace hF:=AaW h2 hF;have h2_:=h2;try simp at h2_
  refine CT (by simp [h2,h2_] <;> omega) ?_;refine SQ [] [none] fun _ _ g r=>?_;try simp [h2,h2_]
  and_intros <;> first | exact GK g | apply r | omega | (simp [h2,h2_,maxLen] <;> omega)
  refine WK [(4,Iz 0)] [] 1 (by simp [h2,h2_]) (by simp [h2,h2_]) ?_;simp only [Option.some.injEq] at hF;subst hF;refine AW.ret (hQ _ _ _ ?_ (AaE ?_)).1
  ·simp [Try.f21,h2,h2_]
  ·simp [h2,h2_]
 ·replace hF:=AaX h2 hF;have h2_:=h2;try simp at h2_
  refine CF (by simp [h2,h2_] <;> omega) ?_;refine AW.skip ?_;refine hK89 _ _ _ ?_;refine SQ [] [none] fun _ _ g r=>?_;try simp [h2,h2_]
  and_intros <;> first | exact GK g | apply r | omega | (simp [h2,h2_,maxLen] <;> omega)
  refine WK [(1,Lz v2),(2,AV.ptr 0 0),(5,Iz 0)] [(0,.cells [Iz v0,Q0 v1])] 1 (by simp [h2,h2_]) (by simp [h2,h2_]) ?_;refine AW.seq fun K131 hK131=>?_;refine SQ [] [none] fun _ _ g r=>?_;try simp [h2,h2_]
  and_intros <;> first | exact GK g | apply r | omega | (simp [h2,h2_,maxLen] <;> omega)
  refine WK [(1,Lz v2),(2,AV.ptr 0 0),(5,Iz 0),(6,Iz 0)] [(0,.cells [Iz v0,Q0 v1])] 1 (by simp [h2,h2_]) (by simp [h2,h2_]) ?_;refine AW.block ?_;refine AW.loopF (α:=(Int×Int)) (fun n (v5,v6)=>Aa9.L1 k v1 v2 n v5 v6=some v3) (fun (v5,v6)=>[(1,Lz v2),(2,AV.ptr 0 0),(5,Iz v5),(6,Iz v6)]) (fun (v5,v6)=>[(0,.cells [Iz v0,Q0 v1])]) 1 k ((0,0)) hF (by simp [h2,h2_]) (by simp [h2,h2_]) (by simp) ?_;rintro (_|n1) ⟨v5,v6⟩ hF K160 hK160
  ·try dsimp only at hF
   rw [Aa9.L1] at hF; cases hF
  try dsimp only at hF
  rw [Aa9.L1] at hF;refine AW.seq fun K162 hK162=>?_;refine SQ [] [none,none,none,none] fun _ _ g r=>?_;try simp [h2,h2_]
  and_intros <;> first | exact GK g | apply r | omega | (simp [h2,h2_,maxLen] <;> omega)
  refine WK [(1,Lz v2),(2,AV.ptr 0 0),(5,Iz v5),(6,Iz v6),(14,AV.bool (decide (v6<(v2.length : Int))))] [(0,.cells [Iz v0,Q0 v1])] 1 (by simp [h2,h2_]) (by simp [h2,h2_]) ?_;by_cases h3 : v6<(v2.length : Int)
  ·replace hF:=AaW h3 hF;have h3_:=h3;try simp at h3_
   have F1:=A4 h2 h2_ h3 h3_;refine CT (by simp [F1] <;> omega) ?_;refine AW.skip ?_;refine hK162 _ _ _ ?_;refine AW.midF (α:=Int) (fun v7=>Aa9.J2 k v6 (fun v5_ v6_=>Aa9.L1 k v1 v2 n1 v5_ v6_) v7=some v3) (fun v7=>[(1,Lz v2),(2,AV.ptr 0 0),(5,Iz v7),(6,Iz v6)]) (fun v7=>[(0,.cells [Iz v0,Q0 v1])]) 1 (fun K167 hK167=>?_) ?_
   ·refine AW.block ?_;refine SQ [] [none,none,none,none,none,none,none] fun _ _ g r=>?_;obtain ⟨v8,h4,h5,h6,hF⟩:=AaZ hF;have h6_:=Aao h6;try simp at h6_
    have h5_:=h5;try simp at h5_
    have F2:=A6 F1 h4 h5 h6 h6_ h5_;try simp [F2]
    and_intros <;> first | exact GK g | apply r | omega | (simp [maxLen,F2] <;> omega)
    refine WK [(1,Lz v2),(2,AV.ptr 0 0),(5,Iz v5),(6,Iz v6),(23,AV.bool (v8.From==0))] [(0,.cells [Iz v0,Q0 v1])] 1 (by simp [F2]) (by simp [F2]) ?_;by_cases h7 : v8.From=0
    ·replace hF:=AaW h7 hF;have h7q : v8.From=0:=h7;have h7_:=Abn h7q;have h7__:=Abm h7q;refine CT (by simp [F2,h7_,h7__,h7q] <;> omega) ?_;refine RG [] [none,none,none,none,none,none,none] fun _ _ g r=>?_;obtain ⟨v9,h8,h9,h10,hF⟩:=AaZ hF;have h10_:=Aao h10;try simp at h10_
     have h9_:=h9;try simp at h9_
     have F3:=A9 F2 h7_ h7__ h7q h8 h9 h10 h10_ h9_;try simp [F3]
     and_intros <;> first | exact GK g | apply r | omega | (simp [maxLen,F3] <;> omega)
     refine hK167 _ _ _ ?_;exact JN (IntKind.wrap .i64 (v5+v9)) hF (by simp [F3]) (by simp [F3])
    ·replace hF:=AaX h7 hF;have h7_:=Abj h7;have h7__:=Abk h7;have F4:=A4 F2 h7 h7_ h7__;refine CF (by simp [F4] <;> omega) ?_;refine AW.skip ?_;refine hK167 _ _ _ ?_;exact JN (v5) hF (by simp [F4]) (by simp [F4])
   ·rintro v7 hF
    try dsimp only at hF
    unfold Aa9.J2 at hF;refine RG [] [none,none,none] fun _ _ g r=>?_;try simp [F1]
    and_intros <;> first | exact GK g | apply r | omega | (simp [maxLen,F1] <;> omega)
    refine hK160 _ _ _ ?_;exact NX (k':=n1) ((v7,IntKind.wrap .i64 (v6+1))) hF (by simp [F1]) (by simp [F1])
  ·replace hF:=AaX h3 hF;have h3_:=h3;try simp at h3_
   have F5:=A4 h2 h2_ h3 h3_;refine CF (by simp [F5] <;> omega) ?_;refine AW.exit ?_;try simp
   refine hK131 _ _ _ ?_;refine SQ [] [none,none] fun _ _ g r=>?_;try simp [F5]
   and_intros <;> first | exact GK g | apply r | omega | (simp [maxLen,F5] <;> omega)
   refine WK [(4,Iz v5)] [] 1 (by simp [F5]) (by simp [F5]) ?_;simp only [Option.some.injEq] at hF;subst hF;refine AW.ret (hQ _ _ _ ?_ (AaE ?_)).1
   ·simp [Try.f21,F5]
   ·simp [F5]
theorem Afh (k : Nat) (v0 : (List Int)) (v1 : Bool) (hF : AaQ k v0=some v1) :
 Aa6 Try.prog 3 [AV.lst false false (List.map (AV.int .i64) v0)] [] (AV.bool v1) []:=by
 unfold AaQ at hF;refine EN Try.func3 ?_;intro c0 w0 Q h0 hQ
 refine WK [(0,Lz v0)] [] 0 (by simp) (by simp) ?_;refine SQ [] [none] fun _ _ g r=>?_;try simp
 and_intros <;> first | exact GK g | apply r | omega | (simp [maxLen] <;> omega)
 refine WK [(0,Lz v0)] [] 0 (by simp) (by simp) ?_;refine AW.seq fun K3145 hK3145=>?_;refine SQ [] [none,none,none] fun _ _ g r=>?_;try simp
 and_intros
 try any_goals first | omega | (simp [maxLen] <;> omega)
 obtain ⟨v2,h1,hF⟩:=AaO hF;refine AC (Aim k _ _ h1) (.cons (.same (by simp)) .nil) ?_;try simp
 and_intros <;> first | exact GK g | apply r | omega | (simp [maxLen] <;> omega)
 refine WK [(0,Lz v0),(18,AV.bool (!v2))] [] 0 (by simp) (by simp) ?_;by_cases h2 : (!v2)=true
 ·replace hF:=AaW h2 hF;have h2_:=h2;try simp at h2_
  refine CT (by simp [h2,h2_] <;> omega) ?_;refine SQ [] [none,none] fun _ _ g r=>?_;try simp [h2,h2_]
  and_intros
  try any_goals first | omega | (simp [h2,h2_,maxLen] <;> omega)
  obtain ⟨v3,h3,hF⟩:=AaO hF;refine AC (Afg k _ h3) .nil ?_;try simp [h2,h2_]
  and_intros <;> first | exact GK g | apply r | omega | (simp [h2,h2_,maxLen] <;> omega)
  refine WK [(2,AV.bool v3)] [] 0 (by simp [h2,h2_]) (by simp [h2,h2_]) ?_;simp only [Option.some.injEq] at hF;subst hF;refine AW.ret (hQ _ _ _ ?_ (AaE ?_)).1
  ·simp [Try.f3,h2,h2_]
  ·simp [h2,h2_]
 ·replace hF:=AaX h2 hF;have h2_:=h2;try simp at h2_
  refine CF (by simp [h2,h2_] <;> omega) ?_;refine AW.skip ?_;refine hK3145 _ _ _ ?_;refine SQ [] [none,none,none] fun _ _ g r=>?_;try simp [h2,h2_]
  and_intros
  try any_goals first | omega | (simp [h2,h2_,maxLen] <;> omega)
  obtain ⟨v4,v5,h4,hF⟩:=AbH hF;refine AC (Ajp k _ _ _ h4) (.cons (.same (by simp [h2,h2_])) .nil) ?_;try simp [h2,h2_]
  and_intros <;> first | exact GK g | apply r | omega | (simp [h2,h2_,maxLen] <;> omega)
  refine WK [(3,AV.ptr 0 0)] [(0,.cells [Lz v4,Iz v5])] 1 (by simp [h2,h2_]) (by simp [h2,h2_]) ?_;refine SQ [] [none,none,none,none] fun _ _ g r=>?_;try simp [h2,h2_]
  and_intros
  try any_goals first | omega | (simp [h2,h2_,maxLen] <;> omega)
  obtain ⟨v6,v7,v8,v9,h5,hF⟩:=AhC hF;refine Aa2 (AfM k _ _ _ _ _ _ h5) (by simp) [0] [] [0] rfl (.cons (.same (by simp [h2,h2_])) .nil) (by simp [h2,h2_]) (by decide) (by simp) (by simp) (.inl rfl) (by simp) (by simp) ?_;try simp [h2,h2_]
  and_intros <;> first | exact GK g | apply r | omega | (simp [h2,h2_,maxLen] <;> omega)
  refine WK [(3,AV.ptr 0 0),(4,AV.ptr 3 0)] [(0,.cells [Lz v4,Iz v9]),(1,.grow (AaL (List.map AaA.av v7))),(2,Gi v8),(3,.cells [Iz v6,AV.slc 1 0 3 v7.length false,AV.slc 2 0 1 v8.length false])] 4 (by simp [h2,h2_]) (by simp [h2,h2_]) ?_;refine AW.frz 1 (o := .grow (AaL (List.map AaA.av v7))) (by simp [h2,h2_]) rfl [] [(3,.cells [Iz v6,Q2 v7,AV.slc 2 0 1 v8.length false])] trivial ⟨⟨by simp,Aat.cells [Iz v6,AV.slc 1 0 3 v7.length false,AV.slc 2 0 1 v8.length false],by simp [h2,h2_],(.mk (.cons (.same _) (.cons (.l (by simp) (by simp) (by simp) (by simp)) (.cons (.same _) .nil))))⟩,trivial⟩ ?_;refine AW.frz 2 (o:=Gi v8) (by simp [h2,h2_]) rfl [] [(3,.cells [Iz v6,Q2 v7,Lz v8])] trivial ⟨⟨by simp,Aat.cells [Iz v6,Q2 v7,AV.slc 2 0 1 v8.length false],by simp [h2,h2_],(.mk (.cons (.same _) (.cons (.same _) (.cons (.l (by simp) (by simp) (by simp) (by simp)) .nil))))⟩,trivial⟩ ?_;refine WK [(3,AV.ptr 0 0),(4,AV.ptr 3 0)] [(0,.cells [Lz v4,Iz v9]),(3,.cells [Iz v6,Q2 v7,Lz v8])] 4 (by simp [h2,h2_]) (by simp [h2,h2_]) ?_;refine SQ [] [none,none,none,none,none] fun _ _ g r=>?_;try simp [h2,h2_]
  and_intros
  try any_goals first | omega | (simp [h2,h2_,maxLen] <;> omega)
  obtain ⟨v10,v11,v12,v13,h6,hF⟩:=AhC hF;refine Aa2 (Aff k _ _ _ _ _ _ _ _ _ h6) (by simp) [0] [] [0] rfl (.cons (.same (by simp [h2,h2_])) (.cons (.same (by simp [h2,h2_])) .nil)) (by simp [h2,h2_]) (by decide) (by simp) (by simp) (.inl rfl) (by simp) (by simp) ?_;try simp [h2,h2_]
  and_intros <;> first | exact GK g | apply r | omega | (simp [h2,h2_,maxLen] <;> omega)
  refine WK [(3,AV.ptr 0 0),(4,AV.ptr 3 0),(5,AV.ptr 5 0)] [(0,.cells [Lz v4,Iz v13]),(3,.cells [Iz v6,Q2 v7,Lz v8]),(4,Gi v11),(5,.cells [Lz v10,AV.slc 4 0 1 v11.length false,Iz v12])] 6 (by simp [h2,h2_]) (by simp [h2,h2_]) ?_;refine AW.frz 4 (o:=Gi v11) (by simp [h2,h2_]) rfl [] [(5,.cells [Lz v10,Lz v11,Iz v12])] trivial ⟨⟨by simp,Aat.cells [Lz v10,AV.slc 4 0 1 v11.length false,Iz v12],by simp [h2,h2_],(.mk (.cons (.same _) (.cons (.l (by simp) (by simp) (by simp) (by simp)) (.cons (.same _) .nil))))⟩,trivial⟩ ?_;refine WK [(3,AV.ptr 0 0),(4,AV.ptr 3 0),(5,AV.ptr 5 0)] [(0,.cells [Lz v4,Iz v13]),(3,.cells [Iz v6,Q2 v7,Lz v8]),(5,.cells [Lz v10,Lz v11,Iz v12])] 6 (by simp [h2,h2_]) (by simp [h2,h2_]) ?_;refine SQ [] [none,none,none,none,none] fun _ _ g r=>?_;try simp [h2,h2_]
  and_intros
  try any_goals first | omega | (simp [h2,h2_,maxLen] <;> omega)
  obtain ⟨v14,v15,h7,hF⟩:=AbH hF;refine Aa2 (AgN k _ _ _ _ _ h7) (by simp) [0] [] [0] rfl (.cons (.same (by simp [h2,h2_])) (.cons (.same (by simp [h2,h2_])) .nil)) (by simp [h2,h2_]) (by decide) (by simp) (by simp) (.inl rfl) (by simp) (by simp) ?_;try simp [h2,h2_]
  and_intros <;> first | exact GK g | apply r | omega | (simp [h2,h2_,maxLen] <;> omega)
  refine WK [(4,AV.ptr 3 0),(5,AV.ptr 5 0),(6,AV.slc 6 0 1 v14.length false)] [(3,.cells [Iz v6,Q2 v7,Lz v8]),(5,.cells [Lz v10,Lz v11,Iz v12]),(6,Gi v14)] 7 (by simp [h2,h2_]) (by simp [h2,h2_]) ?_;refine AW.frz 6 (o:=Gi v14) (by simp [h2,h2_]) rfl [(6,Lz v14)] [] ⟨(.l (by simp) (by simp) (by simp) (by simp)),trivial⟩ trivial ?_;refine WK [(4,AV.ptr 3 0),(5,AV.ptr 5 0),(6,Lz v14)] [(3,.cells [Iz v6,Q2 v7,Lz v8]),(5,.cells [Lz v10,Lz v11,Iz v12])] 7 (by simp [h2,h2_]) (by simp [h2,h2_]) ?_;refine SQ [] [none,none,none,none,none,none,none,none,none,none] fun _ _ g r=>?_;try simp [h2,h2_]
  and_intros
  try any_goals first | omega | (simp [h2,h2_,maxLen] <;> omega)
  obtain ⟨v16,v17,v18,h8,hF⟩:=Adm hF;refine AC (Agi k _ _ _ _ _ _ _ _ _ _ h8) (.cons (.same (by simp [h2,h2_])) (.cons (.same (by simp [h2,h2_])) (.cons (.same (by simp [h2,h2_])) .nil))) ?_;try simp [h2,h2_]
  and_intros <;> first | exact GK g | apply r | omega | (simp [h2,h2_,maxLen] <;> omega)
  refine WK [(4,AV.ptr 3 0),(5,AV.ptr 5 0),(6,Lz v14),(7,AV.ptr 8 0),(8,Iz v18)] [(3,.cells [Iz v6,Q2 v7,Lz v8]),(5,.cells [Lz v10,Lz v11,Iz v12]),(7,.grow (AaL (List.map AaC.av v17))),(8,.cells [Iz v16,AV.slc 7 0 3 v17.length false])] 9 (by simp [h2,h2_]) (by simp [h2,h2_]) ?_;refine AW.frz 7 (o := .grow (AaL (List.map AaC.av v17))) (by simp [h2,h2_]) rfl [] [(8,.cells [Iz v16,Q0 v17])] trivial ⟨⟨by simp,Aat.cells [Iz v16,AV.slc 7 0 3 v17.length false],by simp [h2,h2_],(.mk (.cons (.same _) (.cons (.l (by simp) (by simp) (by simp) (by simp)) .nil)))⟩,trivial⟩ ?_;refine WK [(4,AV.ptr 3 0),(5,AV.ptr 5 0),(6,Lz v14),(7,AV.ptr 8 0),(8,Iz v18)] [(3,.cells [Iz v6,Q2 v7,Lz v8]),(5,.cells [Lz v10,Lz v11,Iz v12]),(8,.cells [Iz v16,Q0 v17])] 9 (by simp [h2,h2_]) (by simp [h2,h2_]) ?_;refine SQ [] [none,none,none,none,none,none,none] fun _ _ g r=>?_;try simp [h2,h2_]
  and_intros
  try any_goals first | omega | (simp [h2,h2_,maxLen] <;> omega)
  obtain ⟨v19,v20,h9,hF⟩:=AbH hF;refine AC (AhY k _ _ _ _ h9) (.cons (.same (by simp [h2,h2_])) .nil) ?_;try simp [h2,h2_]
  and_intros <;> first | exact GK g | apply r | omega | (simp [h2,h2_,maxLen] <;> omega)
  refine WK [(4,AV.ptr 3 0),(5,AV.ptr 5 0),(6,Lz v14),(7,AV.ptr 8 0),(8,Iz v18),(9,AV.slc 9 0 1 v19.length false),(10,Iz v20)] [(3,.cells [Iz v6,Q2 v7,Lz v8]),(5,.cells [Lz v10,Lz v11,Iz v12]),(8,.cells [Iz v16,Q0 v17]),(9,Gi v19)] 10 (by simp [h2,h2_]) (by simp [h2,h2_]) ?_;refine AW.frz 9 (o:=Gi v19) (by simp [h2,h2_]) rfl [(9,Lz v19)] [] ⟨(.l (by simp) (by simp) (by simp) (by simp)),trivial⟩ trivial ?_;refine WK [(4,AV.ptr 3 0),(5,AV.ptr 5 0),(6,Lz v14),(7,AV.ptr 8 0),(8,Iz v18),(9,Lz v19),(10,Iz v20)] [(3,.cells [Iz v6,Q2 v7,Lz v8]),(5,.cells [Lz v10,Lz v11,Iz v12]),(8,.cells [Iz v16,Q0 v17])] 10 (by simp [h2,h2_]) (by simp [h2,h2_]) ?_;refine AW.seq fun K3158 hK3158=>?_;refine SQ [] [none,none,none,some (45,false),some (45,false),none,none,some (49,false),some (49,false),some (49,false),none] fun _ _ g r=>?_;by_cases h10 : v18≠0
  ·replace hF:=AaW h10 hF;have h10_:=Abj h10;have h10__:=Abk h10;have F1:=A5 h2 h2_ h10 h10_ h10__;try simp [F1]
   and_intros <;> first | exact GK g | apply r | omega | (simp [maxLen,F1] <;> omega)
   refine WK [(4,AV.ptr 3 0),(5,AV.ptr 5 0),(6,Lz v14),(7,AV.ptr 8 0),(9,Lz v19),(53,AV.bool true)] [(3,.cells [Iz v6,Q2 v7,Lz v8]),(5,.cells [Lz v10,Lz v11,Iz v12]),(8,.cells [Iz v16,Q0 v17])] 10 (by simp [F1]) (by simp [F1]) ?_;refine CT (by simp [F1]) ?_;refine SQ [] [none] fun _ _ g r=>?_;try simp [F1]
   and_intros <;> first | exact GK g | apply r | omega | (simp [maxLen,F1] <;> omega)
   refine WK [(2,AV.bool false)] [] 10 (by simp [F1]) (by simp [F1]) ?_;simp only [Option.some.injEq] at hF;subst hF;refine AW.ret (hQ _ _ _ ?_ (AaE ?_)).1
   ·simp [Try.f3,F1]
   ·simp [F1]
  ·replace hF:=AaX h10 hF;have h10q : v18=0:=Classical.not_not.1 h10;have h10_:=Abn h10q;have h10__:=Abm h10q;by_cases h11 : v20≠0
   ·replace hF:=AaW h11 hF;have h11_:=Abj h11;have h11__:=Abk h11;have F2:=A8 h2 h2_ h10_ h10__ h10q h11 h11_ h11__;try simp [F2]
    and_intros <;> first | exact GK g | apply r | omega | (simp [maxLen,F2] <;> omega)
    refine WK [(4,AV.ptr 3 0),(5,AV.ptr 5 0),(6,Lz v14),(7,AV.ptr 8 0),(9,Lz v19),(53,AV.bool true)] [(3,.cells [Iz v6,Q2 v7,Lz v8]),(5,.cells [Lz v10,Lz v11,Iz v12]),(8,.cells [Iz v16,Q0 v17])] 10 (by simp [F2]) (by simp [F2]) ?_;refine CT (by simp [F2]) ?_;refine SQ [] [none] fun _ _ g r=>?_;try simp [F2]
    and_intros <;> first | exact GK g | apply r | omega | (simp [maxLen,F2] <;> omega)
    refine WK [(2,AV.bool false)] [] 10 (by simp [F2]) (by simp [F2]) ?_;simp only [Option.some.injEq] at hF;subst hF;refine AW.ret (hQ _ _ _ ?_ (AaE ?_)).1
    ·simp [Try.f3,F2]
    ·simp [F2]
   ·replace hF:=AaX h11 hF;have h11q : v20=0:=Classical.not_not.1 h11;have h11_:=Abn h11q;have h11__:=Abm h11q;have F3:=A8 h2 h2_ h10_ h10__ h10q h11_ h11__ h11q;try simp [F3]
    and_intros
    try any_goals first | omega | (simp [maxLen,F3] <;> omega)
    obtain ⟨v21,h12,hF⟩:=AaO hF;refine AC (Afe k _ _ _ h12) (.cons (.same (by simp [F3])) .nil) ?_;try simp [F3]
    and_intros <;> first | exact GK g | apply r | omega | (simp [maxLen,F3] <;> omega)
    refine WK [(4,AV.ptr 3 0),(5,AV.ptr 5 0),(6,Lz v14),(7,AV.ptr 8 0),(9,Lz v19),(53,AV.bool (v21 !=0))] [(3,.cells [Iz v6,Q2 v7,Lz v8]),(5,.cells [Lz v10,Lz v11,Iz v12]),(8,.cells [Iz v16,Q0 v17])] 10 (by simp [F3]) (by simp [F3]) ?_;by_cases h13 : v21≠0
    ·replace hF:=AaW h13 hF;have h13_:=Abj h13;have h13__:=Abk h13;have F4:=A4 F3 h13 h13_ h13__;refine CT (by simp [F4] <;> omega) ?_;refine SQ [] [none] fun _ _ g r=>?_;try simp [F4]
     and_intros <;> first | exact GK g | apply r | omega | (simp [maxLen,F4] <;> omega)
     refine WK [(2,AV.bool false)] [] 10 (by simp [F4]) (by simp [F4]) ?_;simp only [Option.some.injEq] at hF;subst hF;refine AW.ret (hQ _ _ _ ?_ (AaE ?_)).1
     ·simp [Try.f3,F4]
     ·simp [F4]
    ·replace hF:=AaX h13 hF;have h13q : v21=0:=Classical.not_not.1 h13;have h13_:=Abn h13q;have h13__:=Abm h13q;have F5:=A4 F3 h13_ h13__ h13q;refine CF (by simp [F5] <;> omega) ?_;refine AW.skip ?_;refine hK3158 _ _ _ ?_;refine SQ [] [none,none,none,none] fun _ _ g r=>?_;try simp [F5]
     and_intros
     try any_goals first | omega | (simp [maxLen,F5] <;> omega)
     obtain ⟨v22,h14,hF⟩:=AaO hF;refine AC (Ajl k _ _ _ _ _ _ _ h14) (.cons (.same (by simp [F5])) (.cons (.same (by simp [F5])) .nil)) ?_;try simp [F5]
     and_intros <;> first | exact GK g | apply r | omega | (simp [maxLen,F5] <;> omega)
     refine WK [(4,AV.ptr 3 0),(6,Lz v14),(7,AV.ptr 8 0),(9,Lz v19),(11,AV.slc 10 0 1 v22.length false)] [(3,.cells [Iz v6,Q2 v7,Lz v8]),(8,.cells [Iz v16,Q0 v17]),(10,Gi v22)] 11 (by simp [F5]) (by simp [F5]) ?_;refine AW.frz 10 (o:=Gi v22) (by simp [F5]) rfl [(11,Lz v22)] [] ⟨(.l (by simp) (by simp) (by simp) (by simp)),trivial⟩ trivial ?_;refine WK [(4,AV.ptr 3 0),(6,Lz v14),(7,AV.ptr 8 0),(9,Lz v19),(11,Lz v22)] [(3,.cells [Iz v6,Q2 v7,Lz v8]),(8,.cells [Iz v16,Q0 v17])] 11 (by simp [F5]) (by simp [F5]) ?_;refine SQ [] [none] fun _ _ g r=>?_;try simp [F5]
     and_intros <;> first | exact GK g | apply r | omega | (simp [maxLen,F5] <;> omega)
     refine WK [(4,AV.ptr 3 0),(6,Lz v14),(7,AV.ptr 8 0),(9,Lz v19),(11,Lz v22),(12,Iz 0)] [(3,.cells [Iz v6,Q2 v7,Lz v8]),(8,.cells [Iz v16,Q0 v17])] 11 (by simp [F5]) (by simp [F5]) ?_;refine AW.seq fun K4723 hK4723=>?_;refine SQ [] [none] fun _ _ g r=>?_;try simp [F5]
     and_intros <;> first | exact GK g | apply r | omega | (simp [maxLen,F5] <;> omega)
     refine WK [(4,AV.ptr 3 0),(6,Lz v14),(7,AV.ptr 8 0),(9,Lz v19),(11,Lz v22),(12,Iz 0),(13,Iz 0)] [(3,.cells [Iz v6,Q2 v7,Lz v8]),(8,.cells [Iz v16,Q0 v17])] 11 (by simp [F5]) (by simp [F5]) ?_;refine AW.block ?_;refine RM h0 [(0,3),(1,8)] [(4,AV.ptr 0 0),(6,Lz v14),(7,AV.ptr 1 0),(9,Lz v19),(11,Lz v22),(12,Iz 0),(13,Iz 0)] [(0,.cells [Iz v6,Q2 v7,Lz v8]),(1,.cells [Iz v16,Q0 v17])] 2 (by simp [F5]) (by simp [F5]) ?_;refine AW.loopF (α:=(Int×Int)) (fun n (v23,v24)=>AaQ.L1 k v6 v14 v16 v17 v19 v22 n v23 v24=some v1) (fun (v23,v24)=>[(4,AV.ptr 0 0),(6,Lz v14),(7,AV.ptr 1 0),(9,Lz v19),(11,Lz v22),(12,Iz v23),(13,Iz v24)]) (fun (v23,v24)=>[(0,.cells [Iz v6,Q2 v7,Lz v8]),(1,.cells [Iz v16,Q0 v17])]) 2 k ((0,0)) hF (by simp [F5]) (by simp [F5]) (by simp) ?_;rintro (_|n1) ⟨v23,v24⟩ hF K5892 hK5892
     ·try dsimp only at hF
      rw [AaQ.L1] at hF; cases hF
     try dsimp only at hF
     rw [AaQ.L1] at hF;refine AW.seq fun K5894 hK5894=>?_;refine SQ [] [none,none,none,none] fun _ _ g r=>?_;try simp [F5]
     and_intros <;> first | exact GK g | apply r | omega | (simp [maxLen,F5] <;> omega)
     refine WK [(4,AV.ptr 0 0),(6,Lz v14),(7,AV.ptr 1 0),(9,Lz v19),(11,Lz v22),(12,Iz v23),(13,Iz v24),(60,AV.bool (decide (v24<v6)))] [(0,.cells [Iz v6,Q2 v7,Lz v8]),(1,.cells [Iz v16,Q0 v17])] 2 (by simp [F5]) (by simp [F5]) ?_;by_cases h15 : v24<v6
     ·replace hF:=AaW h15 hF;have h15_:=h15;try simp at h15_
      have F6:=A3 F5 h15 h15_;refine CT (by simp [F6] <;> omega) ?_;refine AW.skip ?_;refine hK5894 _ _ _ ?_;refine AW.seq fun K6088 hK6088=>?_;refine AW.block ?_;refine SQ [] [none] fun _ _ g r=>?_;try simp [F6]
      and_intros <;> first | exact GK g | apply r | omega | (simp [maxLen,F6] <;> omega)
      refine WK [(4,AV.ptr 0 0),(6,Lz v14),(7,AV.ptr 1 0),(9,Lz v19),(11,Lz v22),(12,Iz v23),(13,Iz v24),(14,Iz 0)] [(0,.cells [Iz v6,Q2 v7,Lz v8]),(1,.cells [Iz v16,Q0 v17])] 2 (by simp [F6]) (by simp [F6]) ?_;refine AW.seq fun K6184 hK6184=>?_;refine SQ [] [none] fun _ _ g r=>?_;try simp [F6]
      and_intros <;> first | exact GK g | apply r | omega | (simp [maxLen,F6] <;> omega)
      refine WK [(4,AV.ptr 0 0),(6,Lz v14),(7,AV.ptr 1 0),(9,Lz v19),(11,Lz v22),(12,Iz v23),(13,Iz v24),(14,Iz 0),(15,Iz 0)] [(0,.cells [Iz v6,Q2 v7,Lz v8]),(1,.cells [Iz v16,Q0 v17])] 2 (by simp [F6]) (by simp [F6]) ?_;refine AW.block ?_;refine AW.loopF (α:=(Int×Int×Int)) (fun n (v25,v26,v27)=>AaQ.L2 k v14 v17 v19 v22 v24 (fun v23_ v24_=>AaQ.L1 k v6 v14 v16 v17 v19 v22 n1 v23_ v24_) n v25 v26 v27=some v1) (fun (v25,v26,v27)=>[(4,AV.ptr 0 0),(6,Lz v14),(7,AV.ptr 1 0),(9,Lz v19),(11,Lz v22),(12,Iz v25),(13,Iz v24),(14,Iz v26),(15,Iz v27)]) (fun (v25,v26,v27)=>[(0,.cells [Iz v6,Q2 v7,Lz v8]),(1,.cells [Iz v16,Q0 v17])]) 2 k ((v23,0,0)) hF (by simp [F6]) (by simp [F6]) (by simp) ?_;rintro (_|n2) ⟨v25,v26,v27⟩ hF K6255 hK6255
      ·try dsimp only at hF
       rw [AaQ.L2] at hF; cases hF
      try dsimp only at hF
      rw [AaQ.L2] at hF;refine AW.seq fun K6257 hK6257=>?_;refine SQ [] [none,none,none,none,none] fun _ _ g r=>?_;try simp [F6]
      and_intros <;> first | exact GK g | apply r | omega | (simp [maxLen,F6] <;> omega)
      refine WK [(4,AV.ptr 0 0),(6,Lz v14),(7,AV.ptr 1 0),(9,Lz v19),(11,Lz v22),(12,Iz v25),(13,Iz v24),(14,Iz v26),(15,Iz v27),(67,AV.bool (decide (v27<(v17.length : Int))))] [(0,.cells [Iz v6,Q2 v7,Lz v8]),(1,.cells [Iz v16,Q0 v17])] 2 (by simp [F6]) (by simp [F6]) ?_;by_cases h16 : v27<(v17.length : Int)
      ·replace hF:=AaW h16 hF;have h16_:=h16;try simp at h16_
       have F7:=A3 F6 h16 h16_;refine CT (by simp [F7] <;> omega) ?_;refine AW.skip ?_;refine hK6257 _ _ _ ?_;refine AW.midF (α:=(Int×Int)) (fun (v28,v29)=>AaQ.J3 k v27 (fun v25_ v26_ v27_=>AaQ.L2 k v14 v17 v19 v22 v24 (fun v23_ v24_=>AaQ.L1 k v6 v14 v16 v17 v19 v22 n1 v23_ v24_) n2 v25_ v26_ v27_) v28 v29=some v1) (fun (v28,v29)=>[(4,AV.ptr 0 0),(6,Lz v14),(7,AV.ptr 1 0),(9,Lz v19),(11,Lz v22),(12,Iz v28),(13,Iz v24),(14,Iz v29),(15,Iz v27)]) (fun (v28,v29)=>[(0,.cells [Iz v6,Q2 v7,Lz v8]),(1,.cells [Iz v16,Q0 v17])]) 2 (fun K6269 hK6269=>?_) ?_
       ·refine AW.block ?_;refine AW.midF (α:=Int) (fun v30=>AaQ.J4 k v14 v17 v19 v24 v25 v27 (fun v25_ v26_ v27_=>AaQ.L2 k v14 v17 v19 v22 v24 (fun v23_ v24_=>AaQ.L1 k v6 v14 v16 v17 v19 v22 n1 v23_ v24_) n2 v25_ v26_ v27_) v30=some v1) (fun v30=>[(4,AV.ptr 0 0),(6,Lz v14),(7,AV.ptr 1 0),(9,Lz v19),(11,Lz v22),(12,Iz v25),(13,Iz v24),(14,Iz v30),(15,Iz v27)]) (fun v30=>[(0,.cells [Iz v6,Q2 v7,Lz v8]),(1,.cells [Iz v16,Q0 v17])]) 2 (fun K6276 hK6276=>?_) ?_
        ·refine SQ [] [none,none,none,none,none,none,none,none,none] fun _ _ g r=>?_;obtain ⟨v35,h29,h30,h31,hF⟩:=AaZ hF;have h31_:=Aao h31;try simp at h31_
         have h30_:=h30;try simp at h30_
         have F8:=A6 F7 h29 h30 h31 h31_ h30_;try simp [F8]
         and_intros
         try any_goals first | omega | (simp [maxLen,F8] <;> omega)
         obtain ⟨v36,h32,hF⟩:=AaO hF;refine AC (Ab4 k _ _ h32) (.cons (.same (by simp [F8])) .nil) ?_;try simp [F8]
         and_intros <;> first | exact GK g | apply r | omega | (simp [maxLen,F8] <;> omega)
         refine WK [(4,AV.ptr 0 0),(6,Lz v14),(7,AV.ptr 1 0),(9,Lz v19),(11,Lz v22),(12,Iz v25),(13,Iz v24),(14,Iz v26),(15,Iz v27),(78,AV.bool (v35.To==v36))] [(0,.cells [Iz v6,Q2 v7,Lz v8]),(1,.cells [Iz v16,Q0 v17])] 2 (by simp [F8]) (by simp [F8]) ?_;by_cases h33 : v35.To=v36
         ·replace hF:=AaW h33 hF;have h33q : v35.To=v36:=h33;have h33_:=Abn h33q;have h33__:=Abm h33q;refine CT (by simp [F8,h33_,h33__] <;> omega) ?_;refine RG [] [none,none,none,none,none,none,none] fun _ _ g r=>?_;obtain ⟨v37,h34,h35,h36,hF⟩:=AaZ hF;have h36_:=Aao h36;try simp at h36_
          have h35_:=h35;try simp at h35_
          have F9:=A8 F8 h33_ h33__ h34 h35 h36 h36_ h35_;try simp [F9]
          and_intros <;> first | exact GK g | apply r | omega | (simp [maxLen,F9] <;> omega)
          refine hK6276 _ _ _ ?_;exact JN (IntKind.wrap .i64 (v26+v37)) hF (by simp [F9]) (by simp [F9])
         ·replace hF:=AaX h33 hF;have h33_:=Abj h33;have h33__:=Abk h33;have F10:=A4 F8 h33 h33_ h33__;refine CF (by simp [F10] <;> omega) ?_;refine AW.skip ?_;refine hK6276 _ _ _ ?_;exact JN (v26) hF (by simp [F10]) (by simp [F10])
        ·rintro v30 hF
         try dsimp only at hF
         unfold AaQ.J4 at hF;refine SQ [] [none,none,none,none,none,none,none,none,none,none,some (94,true),some (94,true),some (94,true),some (94,true),some (94,true),some (94,true),some (94,true),none] fun _ _ g r=>?_;obtain ⟨v31,h17,h18,h19,hF⟩:=AaZ hF;have h19_:=Aao h19;try simp at h19_
         have h18_:=h18;try simp at h18_
         have F11:=A6 F7 h17 h18 h19 h19_ h18_;try simp [F11]
         and_intros
         try any_goals first | omega | (simp [maxLen,F11] <;> omega)
         obtain ⟨v32,h20,hF⟩:=AaO hF;refine AC (Ab4 k _ _ h20) (.cons (.same (by simp [F11])) .nil) ?_;by_cases h21 : v31.From=v32
         ·replace hF:=AaW h21 hF;have h21q : v31.From=v32:=h21;have h21_:=Abn h21q;have h21__:=Abm h21q;have F12:=A3 F11 h21_ h21__;try simp [F12]
          and_intros <;> first | exact GK g | apply r | omega | (simp [maxLen,F12] <;> omega)
          refine WK [(4,AV.ptr 0 0),(6,Lz v14),(7,AV.ptr 1 0),(9,Lz v19),(11,Lz v22),(12,Iz v25),(13,Iz v24),(14,Iz v30),(15,Iz v27),(102,AV.bool (v31.To==1))] [(0,.cells [Iz v6,Q2 v7,Lz v8]),(1,.cells [Iz v16,Q0 v17])] 2 (by simp [F12]) (by simp [F12]) ?_;by_cases h22 : v31.To=1
          ·replace hF:=AaW h22 hF;have h22q : v31.To=1:=h22;have h22_:=Abn h22q;have h22__:=Abm h22q;refine CT (by simp [F12,h22_,h22__,h22q] <;> omega) ?_;refine SQ [] [none,none,none,none,none,none,none] fun _ _ g r=>?_;obtain ⟨v33,h23,h24,h25,hF⟩:=AaZ hF;have h25_:=Aao h25;try simp at h25_
           have h24_:=h24;try simp at h24_
           have F13:=A9 F12 h22_ h22__ h22q h23 h24 h25 h25_ h24_;try simp [F13]
           and_intros <;> first | exact GK g | apply r | omega | (simp [maxLen,F13] <;> omega)
           refine WK [(4,AV.ptr 0 0),(6,Lz v14),(7,AV.ptr 1 0),(9,Lz v19),(11,Lz v22),(12,Iz (IntKind.wrap .i64 (v25+v33))),(13,Iz v24),(14,Iz v30),(15,Iz v27)] [(0,.cells [Iz v6,Q2 v7,Lz v8]),(1,.cells [Iz v16,Q0 v17])] 2 (by simp [F13]) (by simp [F13]) ?_;refine SQ [] [none,none,none,none,none,none,some (114,true),some (114,true),some (114,true),some (114,true),none] fun _ _ g r=>?_;by_cases h26 : 0<v33
           ·replace hF:=AaW h26 hF;have h26_:=h26;try simp at h26_
            have F14:=A3 F13 h26 h26_;try simp [F14]
            and_intros
            try any_goals first | omega | (simp [maxLen,F14] <;> omega)
            obtain ⟨v34,h27,hF⟩:=AaO hF;refine AC (AcI k _ _ _ h27) (.cons (.same (by simp [F14])) (.cons (.same (by simp [F14])) .nil)) ?_;try simp [F14]
            and_intros <;> first | exact GK g | apply r | omega | (simp [maxLen,F14] <;> omega)
            refine WK [(4,AV.ptr 0 0),(6,Lz v14),(7,AV.ptr 1 0),(9,Lz v19),(11,Lz v22),(12,Iz (IntKind.wrap .i64 (v25+v33))),(13,Iz v24),(14,Iz v30),(15,Iz v27),(119,AV.bool (!v34))] [(0,.cells [Iz v6,Q2 v7,Lz v8]),(1,.cells [Iz v16,Q0 v17])] 2 (by simp [F14]) (by simp [F14]) ?_;by_cases h28 : (!v34)=true
            ·replace hF:=AaW h28 hF;have h28_:=h28;try simp at h28_
             have F15:=A3 F14 h28 h28_;refine CT (by simp [F15] <;> omega) ?_;refine SQ [] [none] fun _ _ g r=>?_;try simp [F15]
             and_intros <;> first | exact GK g | apply r | omega | (simp [maxLen,F15] <;> omega)
             refine WK [(2,AV.bool false)] [] 2 (by simp [F15]) (by simp [F15]) ?_;simp only [Option.some.injEq] at hF;subst hF;refine AW.ret (hQ _ _ _ ?_ (AaE ?_)).1
             ·simp [Try.f3,F15]
             ·simp [F15]
            ·replace hF:=AaX h28 hF;have h28_:=h28;try simp at h28_
             have F16:=A3 F14 h28 h28_;refine CF (by simp [F16] <;> omega) ?_;refine AW.skip ?_;refine hK6269 _ _ _ ?_;exact JN ((IntKind.wrap .i64 (v25+v33),v30)) hF (by simp [F16]) (by simp [F16])
           ·replace hF:=AaX h26 hF;have h26_:=h26;try simp at h26_
            have F17:=A3 F13 h26 h26_;try simp [F17]
            and_intros <;> first | exact GK g | apply r | omega | (simp [maxLen,F17] <;> omega)
            refine WK [(4,AV.ptr 0 0),(6,Lz v14),(7,AV.ptr 1 0),(9,Lz v19),(11,Lz v22),(12,Iz (IntKind.wrap .i64 (v25+v33))),(13,Iz v24),(14,Iz v30),(15,Iz v27),(119,AV.bool false)] [(0,.cells [Iz v6,Q2 v7,Lz v8]),(1,.cells [Iz v16,Q0 v17])] 2 (by simp [F17]) (by simp [F17]) ?_;refine CF (by simp [F17]) ?_;refine AW.skip ?_;refine hK6269 _ _ _ ?_;exact JN ((IntKind.wrap .i64 (v25+v33),v30)) hF (by simp [F17]) (by simp [F17])
          ·replace hF:=AaX h22 hF;have h22_:=Abj h22;have h22__:=Abk h22;have F18:=A4 F12 h22 h22_ h22__;refine CF (by simp [F18] <;> omega) ?_;refine AW.skip ?_;refine hK6269 _ _ _ ?_;exact JN ((v25,v30)) hF (by simp [F18]) (by simp [F18])
         ·replace hF:=AaX h21 hF;have h21_:=Abj h21;have h21__:=Abk h21;have F19:=A4 F11 h21 h21_ h21__;try simp [F19]
          and_intros <;> first | exact GK g | apply r | omega | (simp [maxLen,F19] <;> omega)
          refine WK [(4,AV.ptr 0 0),(6,Lz v14),(7,AV.ptr 1 0),(9,Lz v19),(11,Lz v22),(12,Iz v25),(13,Iz v24),(14,Iz v30),(15,Iz v27),(102,AV.bool false)] [(0,.cells [Iz v6,Q2 v7,Lz v8]),(1,.cells [Iz v16,Q0 v17])] 2 (by simp [F19]) (by simp [F19]) ?_;refine CF (by simp [F19]) ?_;refine AW.skip ?_;refine hK6269 _ _ _ ?_;exact JN ((v25,v30)) hF (by simp [F19]) (by simp [F19])
       ·rintro ⟨v28,v29⟩ hF
        try dsimp only at hF
        unfold AaQ.J3 at hF;refine RG [] [none,none,none] fun _ _ g r=>?_;try simp [F7]
        and_intros <;> first | exact GK g | apply r | omega | (simp [maxLen,F7] <;> omega)
        refine hK6255 _ _ _ ?_;exact NX (k':=n2) ((v28,v29,IntKind.wrap .i64 (v27+1))) hF (by simp [F7]) (by simp [F7])
      ·replace hF:=AaX h16 hF;have h16_:=h16;try simp at h16_
       have F20:=A3 F6 h16 h16_;refine CF (by simp [F20] <;> omega) ?_;refine AW.exit ?_;try simp
       refine hK6184 _ _ _ ?_;refine SQ [] [none,none,none,none,none,none] fun _ _ g r=>?_;obtain ⟨v38,h37,h38,h39,hF⟩:=AaZ hF;have h39_:=Aao h39;try simp at h39_
       have h38_:=h38;try simp at h38_
       have F21:=A6 F20 h37 h38 h39 h39_ h38_;try simp [F21]
       and_intros <;> first | exact GK g | apply r | omega | (simp [maxLen,F21] <;> omega)
       refine WK [(4,AV.ptr 0 0),(6,Lz v14),(7,AV.ptr 1 0),(9,Lz v19),(11,Lz v22),(12,Iz v25),(13,Iz v24),(125,AV.bool (decide (v38<v26)))] [(0,.cells [Iz v6,Q2 v7,Lz v8]),(1,.cells [Iz v16,Q0 v17])] 2 (by simp [F21]) (by simp [F21]) ?_;by_cases h40 : v38<v26
       ·replace hF:=AaW h40 hF;have h40_:=h40;try simp at h40_
        have F22:=A3 F21 h40 h40_;refine CT (by simp [F22] <;> omega) ?_;refine SQ [] [none] fun _ _ g r=>?_;try simp [F22]
        and_intros <;> first | exact GK g | apply r | omega | (simp [maxLen,F22] <;> omega)
        refine WK [(2,AV.bool false)] [] 2 (by simp [F22]) (by simp [F22]) ?_;simp only [Option.some.injEq] at hF;subst hF;refine AW.ret (hQ _ _ _ ?_ (AaE ?_)).1
        ·simp [Try.f3,F22]
        ·simp [F22]
       ·replace hF:=AaX h40 hF;have h40_:=h40;try simp at h40_
        have F23:=A3 F21 h40 h40_;refine CF (by simp [F23] <;> omega) ?_;refine AW.skip ?_;refine hK6088 _ _ _ ?_;refine RG [] [none,none,none] fun _ _ g r=>?_;try simp [F23]
        and_intros <;> first | exact GK g | apply r | omega | (simp [maxLen,F23] <;> omega)
        refine hK5892 _ _ _ ?_;exact NX (k':=n1) ((v25,IntKind.wrap .i64 (v24+1))) hF (by simp [F23]) (by simp [F23])
     ·replace hF:=AaX h15 hF;have h15_:=h15;try simp at h15_
      have F24:=A3 F5 h15 h15_;refine CF (by simp [F24] <;> omega) ?_;refine AW.exit ?_;try simp
      refine hK4723 _ _ _ ?_;refine SQ [] [none,none,some (127,true),some (127,true),some (127,true),some (127,true),some (127,true),none,none,some (134,true),some (134,true),some (134,true),some (134,true),none,none] fun _ _ g r=>?_;try simp [F24]
      and_intros
      try any_goals first | omega | (simp [maxLen,F24] <;> omega)
      obtain ⟨v39,h41,hF⟩:=AaO hF;refine AC (Afg k _ h41) .nil ?_;by_cases h42 : v39=true
      ·replace hF:=AaW h42 hF;have h42_:=h42;try simp at h42_
       have F25:=A3 F24 h42 h42_;try simp [F25]
       and_intros
       try any_goals first | omega | (simp [maxLen,F25] <;> omega)
       obtain ⟨v40,h43,hF⟩:=AaO hF;refine AC (Ahx k _ _ _ _ h43) (.cons (.same (by simp [F25])) (.cons (.same (by simp [F25])) .nil)) ?_;by_cases h44 : v23=v40
       ·replace hF:=AaW h44 hF;have h44q : v23=v40:=h44;have h44_:=Abn h44q;have h44__:=Abm h44q;have F26:=A3 F25 h44_ h44__;try simp [F26]
        and_intros <;> first | exact GK g | apply r | omega | (simp [maxLen,F26] <;> omega)
        refine WK [(2,AV.bool (decide (v23≤(v14.length : Int))))] [] 2 (by simp [F26]) (by simp [F26]) ?_;simp only [Option.some.injEq] at hF;subst hF;refine AW.ret (hQ _ _ _ ?_ (AaE ?_)).1
        ·simp [Try.f3,F26]
        ·simp [F26]
       ·replace hF:=AaX h44 hF;have h44_:=Abj h44;have h44__:=Abk h44;have F27:=A4 F25 h44 h44_ h44__;try simp [F27]
        and_intros <;> first | exact GK g | apply r | omega | (simp [maxLen,F27] <;> omega)
        refine WK [(2,AV.bool false)] [] 2 (by simp [F27]) (by simp [F27]) ?_;simp only [Option.some.injEq] at hF;subst hF;refine AW.ret (hQ _ _ _ ?_ (AaE ?_)).1
        ·simp [Try.f3,F27]
        ·simp [F27]
      ·replace hF:=AaX h42 hF;have h42_:=h42;try simp at h42_
       have F28:=A3 F24 h42 h42_;try simp [F28]
       and_intros <;> first | exact GK g | apply r | omega | (simp [maxLen,F28] <;> omega)
       refine WK [(2,AV.bool false)] [] 2 (by simp [F28]) (by simp [F28]) ?_;simp only [Option.some.injEq] at hF;subst hF;refine AW.ret (hQ _ _ _ ?_ (AaE ?_)).1
       ·simp [Try.f3,F28]
       ·simp [F28]
end Go.TF
