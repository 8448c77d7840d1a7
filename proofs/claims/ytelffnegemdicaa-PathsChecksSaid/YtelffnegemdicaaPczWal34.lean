import Derived.Test.YtelffnegemdicaaPczWal30
import Derived.Test.YtelffnegemdicaaPczWal31
import Derived.Test.YtelffnegemdicaaPczWal33
set_option linter.unusedVariables false
set_option linter.unusedSimpArgs false
set_option maxRecDepth 100000
set_option maxHeartbeats 4000000
namespace Go.TF
open Go Go.Abs Go.Proofs Go.Proofs.YtelffnegemdicaaPcT
abbrev AbC (v1 : Int) (v2 : (List AaA)) (v3 : (List Int)) (v4 : Int) (v5 : Int) (v6 : Int) (v8 : Bool) : Aau := .cells [Iz v1,Q0 v2,Lz v3,Iz v4,Iz v5,Iz v6,AV.map 2,AV.bool v8]
theorem Acn (k : Nat) (v0 : (List Int)) (v1 : Int) (v2 : (List AaA)) (v3 : (List Int)) (v4 : Int) (v5 : Int) (v6 : Int) (v7 : (List (Int×Bool))) (v8 : Bool) (v9 : Int) (v10 : (List Int)) (hF : AaP k v0 v1 v2 v3 v4 v5 v6 v7 v8 v9=some v10) :
 AbF Try.prog 100 [AV.slc 0 0 1 v0.length false,AV.fn 107 [AV.ptr 1 0,AV.ptr 3 0]] [Gi v0,.cells [AV.int .i64 v1,Q0 v2,AV.lst false false (List.map (AV.int .i64) v3),AV.int .i64 v4,AV.int .i64 v5,AV.int .i64 v6,AV.map 2,AV.bool v8],.mp (mpA (AV.int .i64) AV.bool v7),.cells [AV.int .i64 v9]] (AV.lst false false (List.map (AV.int .i64) v10)) [none,some (.cells [AV.int .i64 v1,Q0 v2,AV.lst false false (List.map (AV.int .i64) v3),AV.int .i64 v4,AV.int .i64 v5,AV.int .i64 v6,AV.map 2,AV.bool v8]),some (.mp (mpA (AV.int .i64) AV.bool v7)),some (.cells [AV.int .i64 v9])]:=by
 unfold AaP at hF;refine EN Try.func100 ?_;intro c0 w0 Q h0 hQ
 refine WK [(0,AV.slc 0 0 1 v0.length false),(1,AV.fn 107 [AV.ptr 1 0,AV.ptr 3 0])] [(0,Gi v0),(1,AbC v1 v2 v3 v4 v5 v6 v8),(2,.mp (mpA (AV.int .i64) AV.bool v7)),(3,.cells [Iz v9])] 4 (by simp) (by simp) ?_;refine SW trivial [] [none] [] [] [] [] 4 ?_;refine SR [] [none,none,none,none] fun _ _ g r=>?_;try simp
 and_intros
 try any_goals first | omega | (simp [maxLen] <;> omega)
 obtain ⟨v11,h1,hF⟩:=AaN hF;refine AbA (Acg k _ _ _ _ _ _ _ _ _ _ _ h1) (by simp) [0,1,2,3] [] [] rfl (.cons (.same (by simp)) (.cons (.same (by simp)) .nil)) (by simp) (by decide) (by simp) (by simp) (.inl rfl) (by simp) (by simp) ?_;refine TL trivial g r [] [(5,Iz v11)] [] [] 4 ?_;refine AW.seq fun K123 hK123=>?_;refine SW trivial [] [none,none] [] [(12,AV.bool (v11==(-1)))] [] [] 4 ?_;by_cases h2 : v11=(-1)
 ·replace hF:=AaZ h2 hF;have h2q : v11=(-1):=h2;have h2_:=Abf h2q;have h2__:=Abe h2q;have F1:=A3 h2_ h2__ h2q;refine CT (by simp [F1] <;> omega) ?_;refine SW F1 [] [none,none] [0,1,5,12] [(4,AV.slc 0 0 1 v0.length false)] [] [] 4 ?_;refine WK [(4,AV.slc 0 0 1 v0.length false)] [(0,Gi v0),(1,AbC v1 v2 v3 v4 v5 v6 v8),(2,.mp (mpA (AV.int .i64) AV.bool v7)),(3,.cells [Iz v9])] 4 (by simp [F1]) (by simp [F1]) ?_;refine AW.frz 0 (o:=Gi v0) (by simp [F1]) rfl [(4,Lz v0)] [] ⟨(.l (by simp) (by simp) (by simp) (by simp)),trivial⟩ trivial ?_;simp only [Option.some.injEq] at hF;subst hF;refine AW.ret (hQ _ _ _ ?_ (AaJ ?_)).1
  ·simp [Try.f100,F1]
  ·simp [F1]
 ·replace hF:=Aaa h2 hF;have h2_:=AbY h2;have h2__:=Abc h2;have F2:=A3 h2 h2_ h2__;refine CF (by simp [F2] <;> omega) ?_;refine AW.skip ?_;refine hK123 _ _ _ ?_;refine AW.seq fun K180 hK180=>?_;refine SW F2 [] [none,none,none] [12] [(6,Iz (IntKind.wrap .i64 (v11+1)))] [] [] 4 ?_;refine AW.block ?_;refine AW.loopF (α:=(Int×Int×(List Int))) (fun n (v12,v13,v14)=>AaP.L1 k v1 v2 v3 v4 v5 v6 v7 v8 v9 n v12 v13 v14=some v10) (fun (v12,v13,v14)=>[(0,AV.slc 0 0 1 v14.length false),(1,AV.fn 107 [AV.ptr 1 0,AV.ptr 3 0]),(5,Iz v12),(6,Iz v13)]) (fun (v12,v13,v14)=>[(0,Gi v14),(1,AbC v1 v2 v3 v4 v5 v6 v8),(2,.mp (mpA (AV.int .i64) AV.bool v7)),(3,.cells [Iz v9])]) 4 k ((v11,IntKind.wrap .i64 (v11+1),v0)) hF (by simp [F2]) (by simp [F2]) (by simp) ?_;rintro (_|n1) ⟨v12,v13,v14⟩ hF K221 hK221
  ·try dsimp only at hF
   rw [AaP.L1] at hF; cases hF
  try dsimp only at hF
  rw [AaP.L1] at hF;refine AW.seq fun K223 hK223=>?_;refine SW F2 [] [none,none,none,none] [] [(19,AV.bool (decide (v13<(v14.length : Int))))] [] [] 4 ?_;by_cases h3 : v13<(v14.length : Int)
  ·replace hF:=AaZ h3 hF;have h3_:=h3;try simp at h3_
   have F3:=A3 F2 h3 h3_;refine CT (by simp [F3] <;> omega) ?_;refine AW.skip ?_;refine hK223 _ _ _ ?_;refine AW.midF (α:=((List Int)×Int)) (fun (v15,v16)=>AaP.J2 k v13 (fun v12_ v13_ v14_=>AaP.L1 k v1 v2 v3 v4 v5 v6 v7 v8 v9 n1 v12_ v13_ v14_) v15 v16=some v10) (fun (v15,v16)=>[(0,AV.slc 0 0 1 v15.length false),(1,AV.fn 107 [AV.ptr 1 0,AV.ptr 3 0]),(5,Iz v16),(6,Iz v13)]) (fun (v15,v16)=>[(0,Gi v15),(1,AbC v1 v2 v3 v4 v5 v6 v8),(2,.mp (mpA (AV.int .i64) AV.bool v7)),(3,.cells [Iz v9])]) 4 (fun K230 hK230=>?_) ?_
   ·refine AW.block ?_;refine SR [] [none,none,none,none,none] fun _ _ g r=>?_;obtain ⟨⟨h4,h5⟩,hF⟩:=AaR hF;have h5_:=Aa3 h5;obtain ⟨v17,h6,h7,h8,hF⟩:=Aad hF;have h8_:=Aas h8;try simp at h8_
    have h7_:=h7;try simp at h7_
    have F4:=A9 F3 h4 h5 h5_ h6 h7 h8 h8_ h7_;refine TL F4 g r [] [(7,Iz v17)] [] [] 4 ?_;refine SR [] [none,none,none,none] fun _ _ g r=>?_;try simp [F4]
    and_intros
    try any_goals first | omega | (simp [maxLen,F4] <;> omega)
    obtain ⟨v18,h9,hF⟩:=AaN hF;refine AbA (AdG k _ _ _ _ _ _ _ _ _ _ _ h9) (by simp) [1,2,3] [] [] rfl (.cons (.same (by simp [F4])) (.cons (.same (by simp [F4])) (.cons (.same (by simp [F4])) .nil))) (by simp [F4]) (by decide) (by simp) (by simp) (.inl rfl) (by simp) (by simp) ?_;refine TL F4 g r [] [(29,AV.bool (!v18))] [] [] 4 ?_;by_cases h10 : (!v18)=true
    ·replace hF:=AaZ h10 hF;have h10_:=h10;try simp at h10_
     have F5:=A3 F4 h10 h10_;refine CT (by simp [F5] <;> omega) ?_;refine SR [] [none,none,none,none,none] fun _ _ g r=>?_;obtain ⟨⟨h11,h12⟩,hF⟩:=AaR hF;have h12_:=Aa3 h12;have F6:=A4 F5 h11 h12 h12_;refine TL F6 g r [0,7,29] [(0,AV.slc 0 0 1 ((v14.set (v12).toNat v17).length) false)] [0] [(0,Gi (v14.set (v12).toNat v17))] 4 ?_;refine RG [] [none,none,none] fun _ _ g r=>?_;try simp [F6]
     and_intros <;> first | exact GK g | apply r | omega | (simp [maxLen,F6] <;> omega)
     refine hK230 _ _ _ ?_;exact JN ((v14.set (v12).toNat v17,IntKind.wrap .i64 (v12+1))) hF (by simp [F6]) (by simp [F6])
    ·replace hF:=Aaa h10 hF;have h10_:=h10;try simp at h10_
     have F7:=A3 F4 h10 h10_;refine CF (by simp [F7] <;> omega) ?_;refine AW.skip ?_;refine hK230 _ _ _ ?_;exact JN ((v14,v12)) hF (by simp [F7]) (by simp [F7])
   ·rintro ⟨v15,v16⟩ hF
    try dsimp only at hF
    unfold AaP.J2 at hF;refine RG [] [none,none,none] fun _ _ g r=>?_;try simp [F3]
    and_intros <;> first | exact GK g | apply r | omega | (simp [maxLen,F3] <;> omega)
    refine hK221 _ _ _ ?_;exact NX (k':=n1) ((v16,IntKind.wrap .i64 (v13+1),v15)) hF (by simp [F3]) (by simp [F3])
  ·replace hF:=Aaa h3 hF;have h3_:=h3;try simp at h3_
   have F8:=A3 F2 h3 h3_;refine CF (by simp [F8] <;> omega) ?_;refine AW.exit ?_;try simp
   refine hK180 _ _ _ ?_;refine SR [] [none,none,none,none] fun _ _ g r=>?_;obtain ⟨⟨h13,h14⟩,hF⟩:=AaR hF;have h13_:=h13;try simp at h13_
   have h14_:=h14;try simp at h14_
   obtain ⟨⟨h17,h15⟩,hF⟩:=AaR hF;have h17n:=Ac6 h17;have h17f:=AgY (F:=(AV.int .i64)) (es:=1) (fun _=>rfl) (by decide) h17;have h16:=AkW (F:=(AV.int .i64)) (es:=1) (fun _=>rfl) v14 0 h15;obtain ⟨v19,h18,hF⟩:=Af8 hF;rw [h18] at h16;have h16_:=h16;try simp at h16_
   have h18l : v19.length=v14.length:=by rw [← h18]; simp <;> omega
   have h18p : 0<v19.length:=by omega
   have h18n:=Ac6 h18p;have h18f:=AgY (F:=(AV.int .i64)) (es:=1) (fun _=>rfl) (by decide) h18p;have F9:=A9 F8 h13 h14 h13_ h14_ h16 h16_ h17n (A7 h17f h17 h15 h18l h18p h18n h18f);refine TL F9 g r [0,1,6] [(0,AV.slc 0 0 1 v19.length false)] [0] [(0,Gi v19)] 4 ?_;refine SR [] [none,none,none,none] fun _ _ g r=>?_;obtain ⟨⟨h19,h20⟩,hF⟩:=AaR hF;have h19_:=h19;try simp at h19_
   have h20_:=h20;try simp at h20_
   have F10:=A5 F9 h19 h20 h19_ h20_;refine TL F10 g r [0,5] [(4,AV.slc 0 0 1 ((v12).toNat) false)] [] [] 4 ?_;refine WK [(4,AV.slc 0 0 1 ((v12).toNat) false)] [(0,Gi v19),(1,AbC v1 v2 v3 v4 v5 v6 v8),(2,.mp (mpA (AV.int .i64) AV.bool v7)),(3,.cells [Iz v9])] 4 (by simp [F10]) (by simp [F10]) ?_;refine AW.frz 0 (o:=Gi v19) (by simp [F10]) rfl [(4,Lz (v19.take ((v12).toNat)))] [] ⟨(.lst (by simp) (by simp) (by simp [AhL,F10] <;> omega) (by first | (simp; done) | simpa using Ahx (len:=(v12).toNat) (F:=(AV.int .i64)) (es:=1) (fun _=>rfl) v19 (by omega)) rfl),trivial⟩ trivial ?_;simp only [Option.some.injEq] at hF;subst hF;refine AW.ret (hQ _ _ _ ?_ (AaJ ?_)).1
   ·simp [Try.f100,F10]
   ·simp [F10]
theorem AdW (k : Nat) (v0 : Int) (v1 : (List AaA)) (v2 : (List Int)) (v3 : Int) (v4 : Int) (v5 : Int) (v6 : (List (Int×Bool))) (v7 : Bool) (v8 : Int) (v9 : (List Int)) (hF : AbP k v0 v1 v2 v3 v4 v5 v6 v7 v8=some v9) :
 AbF Try.prog 87 [AV.agg [AV.int .i64 v0,Q0 v1,AV.lst false false (List.map (AV.int .i64) v2),AV.int .i64 v3,AV.int .i64 v4,AV.int .i64 v5,AV.map 0,AV.bool v7],AV.int .i64 v8] [.mp (mpA (AV.int .i64) AV.bool v6)] (AV.lst false false (List.map (AV.int .i64) v9)) [some (.mp (mpA (AV.int .i64) AV.bool v6))]:=by
 unfold AbP at hF;refine EN Try.func87 ?_;intro c0 w0 Q h0 hQ
 refine WK [(0,AV.agg [Iz v0,Q0 v1,Lz v2,Iz v3,Iz v4,Iz v5,AV.map 0,AV.bool v7]),(1,Iz v8)] [(0,.mp (mpA (AV.int .i64) AV.bool v6))] 1 (by simp) (by simp) ?_;refine SW trivial [] [none,none,none] [0,1] [(2,AV.ptr 1 0),(3,AV.ptr 2 0)] [] [(1,.cells [Iz v0,Q0 v1,Lz v2,Iz v3,Iz v4,Iz v5,AV.map 0,AV.bool v7]),(2,.cells [Iz v8])] 3 ?_;refine SR [] [none,none,none,none,none,none,none,none,none,none] fun _ _ g r=>?_;try simp
 and_intros
 try any_goals first | omega | (simp [maxLen] <;> omega)
 obtain ⟨v10,v11,v12,h1,hF⟩:=Adw hF;refine AC (Ag1 k _ _ _ _ _ _ _ h1) (.cons (.same (by simp)) (.cons (.same (by simp)) .nil)) ?_;try simp
 and_intros
 try any_goals first | omega | (simp [maxLen] <;> omega)
 obtain ⟨v13,h2,hF⟩:=AaN hF;refine AbA (AiG k _ _ _ _ _ h2) (by simp) [] [3] [] rfl (.cons (.agg (.cons (.same (by simp)) (.cons (.same (by simp)) (.cons (Coe.l (o:=Gi v12) (by simp) rfl (by simp) (by simp [Ac5]) (by simp) (by simp)) .nil)))) (.cons (.same (by simp)) .nil)) (by simp) (by decide) (by simp) (by simp) (.inr ⟨by simp,by simp⟩) (by simp) (by simp) ?_;try simp
 and_intros
 try any_goals first | omega | (simp [maxLen] <;> omega)
 obtain ⟨v14,h3,hF⟩:=AaN hF;refine AbA (Acn k _ _ _ _ _ _ _ _ _ _ _ h3) (by simp) [4,1,0,2] [] [4] rfl (.cons (.same (by simp)) (.cons (.same (by simp)) .nil)) (by simp) (by decide) (by simp) (by simp) (.inl rfl) (by simp) (by simp) ?_;refine TL trivial g r [2,3] [(4,Lz v14)] [1,2] [] 5 ?_;simp only [Option.some.injEq] at hF;subst hF;refine AW.ret (hQ _ _ _ ?_ (AaJ ?_)).1
 ·simp [Try.f87]
 ·simp
theorem AeX (k : Nat) (v0 : (List Int)) (v1 : Int) (v2 : Int) (hF : Aa0 k v0 v1=some v2) :
 AbF Try.prog 108 [AV.lst false false (List.map (AV.int .i64) v0),AV.int .i64 v1] [] (AV.int .i64 v2) []:=by
 unfold Aa0 at hF;refine EN Try.func108 ?_;intro c0 w0 Q h0 hQ
 refine WK [(0,Lz v0),(1,Iz v1)] [] 0 (by simp) (by simp) ?_;refine SW trivial [] [none] [] [] [] [] 0 ?_;refine AW.seq fun K131 hK131=>?_;refine SW trivial [] [none,none,none] [] [(7,Iz (v0.length : Int)),(8,Iz 0)] [] [] 0 ?_;refine AW.block ?_;refine AW.loopF (α:=Int) (fun n v3=>Aa0.L1 k v0 v1 n v3=some v2) (fun v3=>[(0,Lz v0),(1,Iz v1),(7,Iz (v0.length : Int)),(8,Iz v3)]) (fun v3=>[]) 0 k (0) hF (by simp) (by simp) (by simp) ?_;rintro (_|n1) v3 hF K163 hK163
 ·try dsimp only at hF
  rw [Aa0.L1] at hF; cases hF
 try dsimp only at hF
 rw [Aa0.L1] at hF;refine SW trivial [] [none] [] [(9,AV.bool (decide (v3<(v0.length : Int))))] [] [] 0 ?_;refine AW.seq fun K165 hK165=>?_;by_cases h1 : v3<(v0.length : Int)
 ·replace hF:=AaZ h1 hF;have h1_:=h1;try simp at h1_
  refine CT (by simp [h1,h1_] <;> omega) ?_;refine AW.skip ?_;refine hK165 _ _ _ ?_;refine AW.seq fun K169 hK169=>?_;refine AW.block ?_;refine SW (A2 h1 h1_) [] [none,none] [] [(5,Iz v3)] [] [] 0 ?_;refine SR [] [none,none,none,none,none,none] fun _ _ g r=>?_;obtain ⟨v4,h2,h3,h4,hF⟩:=Aad hF;have h4_:=Aas h4;try simp at h4_
  have h3_:=h3;try simp at h3_
  have F1:=A7 h1 h1_ h2 h3 h4 h4_ h3_;refine TL F1 g r [] [(16,AV.bool (v1==v4))] [] [] 0 ?_;by_cases h5 : v1=v4
  ·replace hF:=AaZ h5 hF;have h5q : v1=v4:=h5;have h5_:=Abf h5q;have h5__:=Abe h5q;have F2:=A3 F1 h5_ h5__;refine CT (by simp [F2] <;> omega) ?_;refine SW F2 [] [none,none] [0,1,5,7,8,16] [(4,Iz v3)] [] [] 0 ?_;simp only [Option.some.injEq] at hF;subst hF;refine AW.ret (hQ _ _ _ ?_ (AaJ ?_)).1
   ·simp [Try.f108,F2]
   ·simp [F2]
  ·replace hF:=Aaa h5 hF;have h5_:=AbY h5;have h5__:=Abc h5;have F3:=A4 F1 h5 h5_ h5__;refine CF (by simp [F3] <;> omega) ?_;refine AW.skip ?_;refine hK169 _ _ _ ?_;refine RG [] [none,none] fun _ _ g r=>?_;try simp [F3]
   and_intros <;> first | exact GK g | apply r | omega | (simp [maxLen,F3] <;> omega)
   refine hK163 _ _ _ ?_;exact NX (k':=n1) (IntKind.wrap .i64 (v3+1)) hF (by simp [F3]) (by simp [F3])
 ·replace hF:=Aaa h1 hF;have h1_:=h1;try simp at h1_
  refine CF (by simp [h1,h1_] <;> omega) ?_;refine AW.exit ?_;try simp
  refine hK131 _ _ _ ?_;refine SW (A2 h1 h1_) [] [none] [0,1,7,8] [(4,Iz (-1))] [] [] 0 ?_;simp only [Option.some.injEq] at hF;subst hF;refine AW.ret (hQ _ _ _ ?_ (AaJ ?_)).1
  ·simp [Try.f108,h1,h1_]
  ·simp [h1,h1_]
theorem Aci (k : Nat) (v0 : (List Int)) (v1 : Int) (v2 : Bool) (hF : AbW k v0 v1=some v2) :
 AbF Try.prog 90 [AV.lst false false (List.map (AV.int .i64) v0),AV.int .i64 v1] [] (AV.bool v2) []:=by
 unfold AbW at hF;refine EN Try.func90 ?_;intro c0 w0 Q h0 hQ
 refine WK [(0,Lz v0),(1,Iz v1)] [] 0 (by simp) (by simp) ?_;refine SW trivial [] [none] [] [] [] [] 0 ?_;obtain ⟨v3,h1,hF⟩:=AaN hF;refine CL trivial [] [none,none,none,none,none] (AeX k _ _ _ h1) [0,1] [(4,AV.bool (decide (0≤v3)))] [] [] 0 ?_;simp only [Option.some.injEq] at hF;subst hF;refine AW.ret (hQ _ _ _ ?_ (AaJ ?_)).1
 ·simp [Try.f90]
 ·simp
theorem Aeh (k : Nat) (v0 : Int) (v1 : (List (Int×Bool))) (v2 : (List (Int×(List Int)))) (v3 : Int) (v4 : Bool) (hF : Abh k v0 v1 v2 v3=some v4) :
 AbF Try.prog 89 [AV.int .i64 v0,AV.ptr 0 0,AV.ptr 2 0,AV.ptr 4 0] [.cells [AV.map 1],.mp (mpA (AV.int .i64) AV.bool v1),.cells [AV.map 3],.mp (mpA (AV.int .i64) (sl (AV.int .i64)) v2),.cells [AV.int .i64 v3]] (AV.bool v4) [some (.cells [AV.map 1]),some (.mp (mpA (AV.int .i64) AV.bool v1)),some (.cells [AV.map 3]),some (.mp (mpA (AV.int .i64) (sl (AV.int .i64)) v2)),some (.cells [AV.int .i64 v3])]:=by
 unfold Abh at hF;refine EN Try.func89 ?_;intro c0 w0 Q h0 hQ
 refine WK [(0,Iz v0),(1,AV.ptr 0 0),(2,AV.ptr 2 0),(3,AV.ptr 4 0)] [(0,.cells [AV.map 1]),(1,.mp (mpA (AV.int .i64) AV.bool v1)),(2,.cells [AV.map 3]),(3,.mp (mpA (AV.int .i64) (sl (AV.int .i64)) v2)),(4,.cells [Iz v3])] 5 (by simp) (by simp) ?_;refine SW trivial [] [none] [] [] [] [] 5 ?_;refine SR [] [none,none,none,none,some (9,true),some (9,true),some (9,true),some (9,true),some (9,true),none,none] fun _ _ g r=>?_;rcases Ab0 hF with ⟨v5,h1,hF⟩ | ⟨h2,hF⟩
 ·by_cases h3 : v5=true
  ·replace hF:=AaZ h3 hF;have h3_:=h3;try simp at h3_
   rcases Ab0 hF with ⟨v6,h4,hF⟩ | ⟨h5,hF⟩
   ·have F1:=A4 h1 h3 h3_ h4;try simp [F1]
    and_intros
    try any_goals first | omega | (simp [maxLen,F1] <;> omega)
    obtain ⟨v7,h6,hF⟩:=AaN hF;refine AC (Aci k _ _ _ h6) (.cons (.same (by simp [F1])) (.cons (.same (by simp [F1])) .nil)) ?_;refine TL F1 g r [0,1,2,3] [(5,AV.bool v7)] [] [] 5 ?_;simp only [Option.some.injEq] at hF;subst hF;refine AW.ret (hQ _ _ _ ?_ (AaJ ?_)).1
    ·simp [Try.f89,F1]
    ·simp [F1]
   ·have F2:=A4 h1 h3 h3_ h5;try simp [F2]
    and_intros
    try any_goals first | omega | (simp [maxLen,F2] <;> omega)
    obtain ⟨v8,h7,hF⟩:=AaN hF;refine AC (Aci k _ _ _ h7) (.cons (Coe.fl (by simp [F2])) (.cons (.same (by simp [F2])) .nil)) ?_;refine TL F2 g r [0,1,2,3] [(5,AV.bool v8)] [] [] 5 ?_;simp only [Option.some.injEq] at hF;subst hF;refine AW.ret (hQ _ _ _ ?_ (AaJ ?_)).1
    ·simp [Try.f89,F2]
    ·simp [F2]
  ·replace hF:=Aaa h3 hF;have h3_:=h3;try simp at h3_
   have F3:=A3 h1 h3 h3_;refine TL F3 g r [0,1,2,3] [(5,AV.bool false)] [] [] 5 ?_;simp only [Option.some.injEq] at hF;subst hF;refine AW.ret (hQ _ _ _ ?_ (AaJ ?_)).1
   ·simp [Try.f89,F3]
   ·simp [F3]
 ·refine TL h2 g r [0,1,2,3] [(5,AV.bool false)] [] [] 5 ?_;simp only [Option.some.injEq] at hF;subst hF;refine AW.ret (hQ _ _ _ ?_ (AaJ ?_)).1
  ·simp [Try.f89,h2]
  ·simp [h2]
theorem Ac1 (k : Nat) (v0 : (List Int)) (v1 : (List (Int×Bool))) (v2 : (List (Int×(List Int)))) (v3 : Int) (v4 : Int) (hF : Aag k v0 v1 v2 v3=some v4) :
 AbF Try.prog 88 [AV.lst false false (List.map (AV.int .i64) v0),AV.fn 89 [AV.ptr 0 0,AV.ptr 2 0,AV.ptr 4 0]] [.cells [AV.map 1],.mp (mpA (AV.int .i64) AV.bool v1),.cells [AV.map 3],.mp (mpA (AV.int .i64) (sl (AV.int .i64)) v2),.cells [AV.int .i64 v3]] (AV.int .i64 v4) [some (.cells [AV.map 1]),some (.mp (mpA (AV.int .i64) AV.bool v1)),some (.cells [AV.map 3]),some (.mp (mpA (AV.int .i64) (sl (AV.int .i64)) v2)),some (.cells [AV.int .i64 v3])]:=by
 unfold Aag at hF;refine EN Try.func88 ?_;intro c0 w0 Q h0 hQ
 refine WK [(0,Lz v0),(1,AV.fn 89 [AV.ptr 0 0,AV.ptr 2 0,AV.ptr 4 0])] [(0,.cells [AV.map 1]),(1,.mp (mpA (AV.int .i64) AV.bool v1)),(2,.cells [AV.map 3]),(3,.mp (mpA (AV.int .i64) (sl (AV.int .i64)) v2)),(4,.cells [Iz v3])] 5 (by simp) (by simp) ?_;refine SW trivial [] [none] [] [] [] [] 5 ?_;refine AW.seq fun K131 hK131=>?_;refine SW trivial [] [none,none,none] [] [(7,Iz (v0.length : Int)),(8,Iz 0)] [] [] 5 ?_;refine AW.block ?_;refine AW.loopF (α:=Int) (fun n v5=>Aag.L1 k v0 v1 v2 v3 n v5=some v4) (fun v5=>[(0,Lz v0),(1,AV.fn 89 [AV.ptr 0 0,AV.ptr 2 0,AV.ptr 4 0]),(7,Iz (v0.length : Int)),(8,Iz v5)]) (fun v5=>[(0,.cells [AV.map 1]),(1,.mp (mpA (AV.int .i64) AV.bool v1)),(2,.cells [AV.map 3]),(3,.mp (mpA (AV.int .i64) (sl (AV.int .i64)) v2)),(4,.cells [Iz v3])]) 5 k (0) hF (by simp) (by simp) (by simp) ?_;rintro (_|n1) v5 hF K163 hK163
 ·try dsimp only at hF
  rw [Aag.L1] at hF; cases hF
 try dsimp only at hF
 rw [Aag.L1] at hF;refine SW trivial [] [none] [] [(9,AV.bool (decide (v5<(v0.length : Int))))] [] [] 5 ?_;refine AW.seq fun K165 hK165=>?_;by_cases h1 : v5<(v0.length : Int)
 ·replace hF:=AaZ h1 hF;have h1_:=h1;try simp at h1_
  refine CT (by simp [h1,h1_] <;> omega) ?_;refine AW.skip ?_;refine hK165 _ _ _ ?_;refine AW.seq fun K169 hK169=>?_;refine AW.block ?_;refine SW (A2 h1 h1_) [] [none,none] [] [(5,Iz v5)] [] [] 5 ?_;refine SR [] [none,none,none,none,none,none] fun _ _ g r=>?_;obtain ⟨v6,h2,h3,h4,hF⟩:=Aad hF;have h4_:=Aas h4;try simp at h4_
  have h3_:=h3;try simp at h3_
  have F1:=A7 h1 h1_ h2 h3 h4 h4_ h3_;try simp [F1]
  and_intros
  try any_goals first | omega | (simp [maxLen,F1] <;> omega)
  obtain ⟨v7,h5,hF⟩:=AaN hF;refine AbA (Aeh k _ _ _ _ _ h5) (by simp) [0,1,2,3,4] [] [] rfl (.cons (.same (by simp [F1])) (.cons (.same (by simp [F1])) (.cons (.same (by simp [F1])) (.cons (.same (by simp [F1])) .nil)))) (by simp [F1]) (by decide) (by simp) (by simp) (.inl rfl) (by simp) (by simp) ?_;refine TL F1 g r [] [(16,AV.bool v7)] [] [] 5 ?_;by_cases h6 : v7=true
  ·replace hF:=AaZ h6 hF;have h6_:=h6;try simp at h6_
   have F2:=A3 F1 h6 h6_;refine CT (by simp [F2] <;> omega) ?_;refine SW F2 [] [none,none] [0,1,5,7,8,16] [(4,Iz v5)] [] [] 5 ?_;simp only [Option.some.injEq] at hF;subst hF;refine AW.ret (hQ _ _ _ ?_ (AaJ ?_)).1
   ·simp [Try.f88,F2]
   ·simp [F2]
  ·replace hF:=Aaa h6 hF;have h6_:=h6;try simp at h6_
   have F3:=A3 F1 h6 h6_;refine CF (by simp [F3] <;> omega) ?_;refine AW.skip ?_;refine hK169 _ _ _ ?_;refine RG [] [none,none] fun _ _ g r=>?_;try simp [F3]
   and_intros <;> first | exact GK g | apply r | omega | (simp [maxLen,F3] <;> omega)
   refine hK163 _ _ _ ?_;exact NX (k':=n1) (IntKind.wrap .i64 (v5+1)) hF (by simp [F3]) (by simp [F3])
 ·replace hF:=Aaa h1 hF;have h1_:=h1;try simp at h1_
  refine CF (by simp [h1,h1_] <;> omega) ?_;refine AW.exit ?_;try simp
  refine hK131 _ _ _ ?_;refine SW (A2 h1 h1_) [] [none] [0,1,7,8] [(4,Iz (-1))] [] [] 5 ?_;simp only [Option.some.injEq] at hF;subst hF;refine AW.ret (hQ _ _ _ ?_ (AaJ ?_)).1
  ·simp [Try.f88,h1,h1_]
  ·simp [h1,h1_]
abbrev AaO (v0 : Int) (v1 : (List AaA)) (v2 : (List Int)) (v3 : Int) (v4 : Int) (v5 : Int) (v7 : Bool) : Aau := .cells [Iz v0,Q0 v1,Lz v2,Iz v3,Iz v4,Iz v5,AV.map 0,AV.bool v7]
theorem Ado (k : Nat) (v0 : Int) (v1 : (List AaA)) (v2 : (List Int)) (v3 : Int) (v4 : Int) (v5 : Int) (v6 : (List (Int×Bool))) (v7 : Bool) (v8 : Int) (v9 : (List Int)) (hF : AaB k v0 v1 v2 v3 v4 v5 v6 v7 v8=some v9) :
 AbF Try.prog 62 [AV.agg [AV.int .i64 v0,Q0 v1,AV.lst false false (List.map (AV.int .i64) v2),AV.int .i64 v3,AV.int .i64 v4,AV.int .i64 v5,AV.map 0,AV.bool v7],AV.int .i64 v8] [.mp (mpA (AV.int .i64) AV.bool v6)] (AV.lst (List.isEmpty v9) (List.isEmpty v9) (List.map (AV.int .i64) v9)) [some (.mp (mpA (AV.int .i64) AV.bool v6))]:=by
 unfold AaB at hF;refine EN Try.func62 ?_;intro c0 w0 Q h0 hQ
 refine WK [(0,AV.agg [Iz v0,Q0 v1,Lz v2,Iz v3,Iz v4,Iz v5,AV.map 0,AV.bool v7]),(1,Iz v8)] [(0,.mp (mpA (AV.int .i64) AV.bool v6))] 1 (by simp) (by simp) ?_;refine SW trivial [] [none,none] [0] [(2,AV.ptr 1 0)] [] [(1,AaO v0 v1 v2 v3 v4 v5 v7)] 2 ?_;refine SW trivial [] [none,none,none,none,none,none] [] [(5,AV.map 2)] [] [(2,.mp (mpA (AV.int .i64) (AV.int .i64) (AbE ([] : (List (Int×Int))) v4 0)))] 3 ?_;refine SW trivial [] [none,none,none] [] [(6,AV.ptr 4 0)] [] [(3,.mp (mpA (AV.int .i64) (sl (AV.int .i64)) ([] : (List (Int×(List Int)))))),(4,.cells [AV.map 3])] 5 ?_;refine AW.seq fun K4642 hK4642=>?_;refine SW trivial [29] [none,none,none,none] [] [(7,AV.slc 5 0 1 (([v4] : List Int).length) true)] [] [(5,Ci ([v4] : List Int))] 6 ?_;refine AW.block ?_;refine WK [(1,Iz v8),(2,AV.ptr 1 0),(5,AV.map 2),(6,AV.ptr 4 0),(7,AV.slc 5 0 1 (([v4] : List Int).length) true)] ((3,.mp (AdT ([] : List (Int×List Int))))::(0,.mp (mpA (AV.int .i64) AV.bool v6))::(1,AaO v0 v1 v2 v3 v4 v5 v7)::(2,.mp (mpA (AV.int .i64) (AV.int .i64) (AbE ([] : (List (Int×Int))) v4 0)))::(4,.cells [AV.map 3])::(5,Ci ([v4] : List Int))::fam ([] : List (Int×List Int))) 2000 (by simp) (by simp) ?_;refine AW.rnmF (m0:=1) h0 ([] : List (Int×List Int)) 4 3 [(0,0),(1,1),(2,2),(3,4),(5,5)] [(1,Iz v8),(2,AV.ptr 1 0),(5,AV.map 2),(6,AV.ptr 3 0),(7,AV.slc 5 0 1 (([v4] : List Int).length) true)] [(0,.mp (mpA (AV.int .i64) AV.bool v6)),(1,AaO v0 v1 v2 v3 v4 v5 v7),(2,.mp (mpA (AV.int .i64) (AV.int .i64) (AbE ([] : (List (Int×Int))) v4 0))),(3,.cells [AV.map 4]),(5,Ci ([v4] : List Int))] (by decide) (by decide) (by decide) rfl (by simp) (by simp) (by simp) (by simp) ?_;refine AW.flg [(7,AV.slc 5 0 1 (([v4] : List Int).length) false)] [] ⟨.slc,trivial⟩ trivial (by simp) ?_;refine AW.loopF (α:=(Nat×(List (Int×Int))×(List (Int×(List Int)))×(List Int))) (fun n (v10,v11,v12,v13)=>AaB.L1 k v0 v1 v2 v3 v4 v5 v6 v7 v8 n v10 v11 v12 v13=some v9) (fun (v10,v11,v12,v13)=>[(1,Iz v8),(2,AV.ptr 1 0),(5,AV.map 2),(6,AV.ptr 3 0),(7,AV.slc 5 v10 1 (v13.length-v10) false)]) (fun (v10,v11,v12,v13)=>(4,.mp (AdT v12))::(0,.mp (mpA (AV.int .i64) AV.bool v6))::(1,AaO v0 v1 v2 v3 v4 v5 v7)::(2,.mp (mpA (AV.int .i64) (AV.int .i64) v11))::(3,.cells [AV.map 4])::(5,Ci v13)::fam v12) 2000 k ((0,AbE ([] : (List (Int×Int))) v4 0,([] : List (Int×List Int)),([v4] : List Int))) hF (by simp) (by simp) (by simp) ?_;rintro (_|n1) ⟨v10,v11,v12,v13⟩ hF K5493 hK5493
 ·try dsimp only at hF
  rw [AaB.L1] at hF; cases hF
 try dsimp only at hF
 rw [AaB.L1] at hF;refine AW.seq fun K5495 hK5495=>?_;refine SQ [] [none,none,none] fun _ _ g r=>?_;try simp
 and_intros <;> first | exact GK g | apply r | omega | (simp [maxLen] <;> omega)
 refine WK [(1,Iz v8),(2,AV.ptr 1 0),(5,AV.map 2),(6,AV.ptr 3 0),(7,AV.slc 5 v10 1 (v13.length-v10) false),(32,AV.bool (decide (0<(((v13.length-v10) : Nat) : Int))))] ((4,.mp (AdT v12))::(0,.mp (mpA (AV.int .i64) AV.bool v6))::(1,AaO v0 v1 v2 v3 v4 v5 v7)::(2,.mp (mpA (AV.int .i64) (AV.int .i64) v11))::(3,.cells [AV.map 4])::(5,Ci v13)::fam v12) 2000 (by simp) (by simp) ?_;by_cases h1 : 0<(((v13.length-v10) : Nat) : Int)
 ·replace hF:=AaZ h1 hF;have h1_:=h1;try simp at h1_
  refine CT (by simp [h1,h1_] <;> omega) ?_;refine AW.skip ?_;refine hK5495 _ _ _ ?_;refine AW.seq fun K5636 hK5636=>?_;refine AW.block ?_;refine SQ [] [none,none,none,none] fun _ _ g r=>?_;obtain ⟨⟨h2,h4,h3⟩,hF⟩:=AaR hF;have h3_:=Aa3 h3;obtain ⟨v14,h5,h6,h7,hF⟩:=Aad hF;have h7_:=Aas h7;try simp at h7_
  have h6_:=h6;try simp at h6_
  have F1:=A9 h1 h1_ h2 h3 h4 h3_ h5 h6 (A3 h7 h7_ h6_);try simp [F1]
  and_intros <;> first | exact GK g | apply r | omega | (simp [maxLen,F1] <;> omega)
  refine WK [(1,Iz v8),(2,AV.ptr 1 0),(5,AV.map 2),(6,AV.ptr 3 0),(7,AV.slc 5 v10 1 (v13.length-v10) false),(8,Iz v14)] ((4,.mp (AdT v12))::(0,.mp (mpA (AV.int .i64) AV.bool v6))::(1,AaO v0 v1 v2 v3 v4 v5 v7)::(2,.mp (mpA (AV.int .i64) (AV.int .i64) v11))::(3,.cells [AV.map 4])::(5,Ci v13)::fam v12) 2000 (by simp [F1]) (by simp [F1]) ?_;refine SQ [] [none,none,none,none,none] fun _ _ g r=>?_;try simp [F1]
  and_intros
  try any_goals first | omega | (simp [maxLen,F1] <;> omega)
  obtain ⟨v15,h8,hF⟩:=AaN hF;refine AbA (AdW k _ _ _ _ _ _ _ _ _ _ h8) (by simp) [0] [] [] rfl (.cons (.same (by simp [F1])) (.cons (.same (by simp [F1])) .nil)) (by simp [F1]) (by decide) (by simp) (by simp) (.inl rfl) (by simp) (by simp) ?_;try simp [F1]
  and_intros <;> first | exact GK g | apply r | omega | (simp [maxLen,F1] <;> omega)
  refine WK [(1,Iz v8),(2,AV.ptr 1 0),(5,AV.map 2),(6,AV.ptr 3 0),(7,AV.slc 5 v10 1 (v13.length-v10) false),(8,Iz v14),(40,Lz v15),(41,Iz (v15.length : Int)),(42,Iz 0)] ((4,.mp (AdT v12))::(0,.mp (mpA (AV.int .i64) AV.bool v6))::(1,AaO v0 v1 v2 v3 v4 v5 v7)::(2,.mp (mpA (AV.int .i64) (AV.int .i64) v11))::(3,.cells [AV.map 4])::(5,Ci v13)::fam v12) 2000 (by simp [F1]) (by simp [F1]) ?_;refine AW.block ?_;refine AW.loopF (α:=(Nat×Int×(List (Int×Int))×(List (Int×(List Int)))×(List Int))) (fun n (v16,v17,v18,v19,v20)=>AaB.L2 k v14 v15 (fun v10_ v11_ v12_ v13_=>AaB.L1 k v0 v1 v2 v3 v4 v5 v6 v7 v8 n1 v10_ v11_ v12_ v13_) n v16 v17 v18 v19 v20=some v9) (fun (v16,v17,v18,v19,v20)=>[(1,Iz v8),(2,AV.ptr 1 0),(5,AV.map 2),(6,AV.ptr 3 0),(7,AV.slc 5 v16 1 (v20.length-v16) false),(8,Iz v14),(40,Lz v15),(41,Iz (v15.length : Int)),(42,Iz v17)]) (fun (v16,v17,v18,v19,v20)=>(4,.mp (AdT v19))::(0,.mp (mpA (AV.int .i64) AV.bool v6))::(1,AaO v0 v1 v2 v3 v4 v5 v7)::(2,.mp (mpA (AV.int .i64) (AV.int .i64) v18))::(3,.cells [AV.map 4])::(5,Ci v20)::fam v19) 2000 k ((v10,0,v11,v12,v13)) hF (by simp [F1]) (by simp [F1]) (by simp) ?_;rintro (_|n2) ⟨v16,v17,v18,v19,v20⟩ hF K5741 hK5741
  ·try dsimp only at hF
   rw [AaB.L2] at hF; cases hF
  try dsimp only at hF
  rw [AaB.L2] at hF;refine SQ [] [none] fun _ _ g r=>?_;try simp [F1]
  and_intros <;> first | exact GK g | apply r | omega | (simp [maxLen,F1] <;> omega)
  refine WK [(1,Iz v8),(2,AV.ptr 1 0),(5,AV.map 2),(6,AV.ptr 3 0),(7,AV.slc 5 v16 1 (v20.length-v16) false),(8,Iz v14),(40,Lz v15),(41,Iz (v15.length : Int)),(42,Iz v17),(43,AV.bool (decide (v17<(v15.length : Int))))] ((4,.mp (AdT v19))::(0,.mp (mpA (AV.int .i64) AV.bool v6))::(1,AaO v0 v1 v2 v3 v4 v5 v7)::(2,.mp (mpA (AV.int .i64) (AV.int .i64) v18))::(3,.cells [AV.map 4])::(5,Ci v20)::fam v19) 2000 (by simp [F1]) (by simp [F1]) ?_;refine AW.seq fun K5743 hK5743=>?_;by_cases h9 : v17<(v15.length : Int)
  ·replace hF:=AaZ h9 hF;have h9_:=h9;try simp at h9_
   have F2:=A3 F1 h9 h9_;refine CT (by simp [F2] <;> omega) ?_;refine AW.skip ?_;refine hK5743 _ _ _ ?_;refine AW.midF (α:=((List (Int×Int))×(List (Int×(List Int)))×(List Int)×Nat)) (fun (v21,v22,v23,v24)=>AaB.J3 k v17 (fun v16_ v17_ v18_ v19_ v20_=>AaB.L2 k v14 v15 (fun v10_ v11_ v12_ v13_=>AaB.L1 k v0 v1 v2 v3 v4 v5 v6 v7 v8 n1 v10_ v11_ v12_ v13_) n2 v16_ v17_ v18_ v19_ v20_) v21 v22 v23 v24=some v9) (fun (v21,v22,v23,v24)=>[(1,Iz v8),(2,AV.ptr 1 0),(5,AV.map 2),(6,AV.ptr 3 0),(7,AV.slc 5 v24 1 (v23.length-v24) false),(8,Iz v14),(40,Lz v15),(41,Iz (v15.length : Int)),(42,Iz v17)]) (fun (v21,v22,v23,v24)=>(4,.mp (AdT v22))::(0,.mp (mpA (AV.int .i64) AV.bool v6))::(1,AaO v0 v1 v2 v3 v4 v5 v7)::(2,.mp (mpA (AV.int .i64) (AV.int .i64) v21))::(3,.cells [AV.map 4])::(5,Ci v23)::fam v22) 2000 (fun K5760 hK5760=>?_) ?_
   ·refine AW.block ?_;refine SQ [] [none,none,none] fun _ _ g r=>?_;obtain ⟨v25,h10,h11,h12,hF⟩:=Aad hF;have h12_:=Aas h12;try simp at h12_
    have h11_:=h11;try simp at h11_
    have F3:=A6 F2 h10 h11 h12 h12_ h11_;try simp [F3]
    and_intros <;> first | exact GK g | apply r | omega | (simp [maxLen,F3] <;> omega)
    refine WK [(1,Iz v8),(2,AV.ptr 1 0),(5,AV.map 2),(6,AV.ptr 3 0),(7,AV.slc 5 v16 1 (v20.length-v16) false),(8,Iz v14),(10,Iz v25),(40,Lz v15),(41,Iz (v15.length : Int)),(42,Iz v17)] ((4,.mp (AdT v19))::(0,.mp (mpA (AV.int .i64) AV.bool v6))::(1,AaO v0 v1 v2 v3 v4 v5 v7)::(2,.mp (mpA (AV.int .i64) (AV.int .i64) v18))::(3,.cells [AV.map 4])::(5,Ci v20)::fam v19) 2000 (by simp [F3]) (by simp [F3]) ?_;refine AW.midF (α:=(Int×Bool)) (fun (v26,v27)=>AaB.J4 k v14 v16 v17 v18 v19 v20 v25 (fun v16_ v17_ v18_ v19_ v20_=>AaB.L2 k v14 v15 (fun v10_ v11_ v12_ v13_=>AaB.L1 k v0 v1 v2 v3 v4 v5 v6 v7 v8 n1 v10_ v11_ v12_ v13_) n2 v16_ v17_ v18_ v19_ v20_) v26 v27=some v9) (fun (v26,v27)=>[(1,Iz v8),(2,AV.ptr 1 0),(5,AV.map 2),(6,AV.ptr 3 0),(7,AV.slc 5 v16 1 (v20.length-v16) false),(8,Iz v14),(10,Iz v25),(11,Iz v26),(12,AV.bool v27),(40,Lz v15),(41,Iz (v15.length : Int)),(42,Iz v17)]) (fun (v26,v27)=>(4,.mp (AdT v19))::(0,.mp (mpA (AV.int .i64) AV.bool v6))::(1,AaO v0 v1 v2 v3 v4 v5 v7)::(2,.mp (mpA (AV.int .i64) (AV.int .i64) v18))::(3,.cells [AV.map 4])::(5,Ci v20)::fam v19) 2000 (fun K5775 hK5775=>?_) ?_
    ·refine RG [] [none,none,none,none,none,none,none,none] fun _ _ g r=>?_;rcases Ab0 hF with ⟨v38,h26,hF⟩ | ⟨h27,hF⟩
     ·try simp [F3,h26]
      and_intros <;> first | exact GK g | apply r | omega | (simp [maxLen,F3,h26] <;> omega)
      refine hK5775 _ _ _ ?_;exact JN ((v38,true)) hF (by simp [F3,h26]) (by simp [F3,h26])
     ·try simp [F3,h27]
      and_intros <;> first | exact GK g | apply r | omega | (simp [maxLen,F3,h27] <;> omega)
      refine hK5775 _ _ _ ?_;exact JN ((0,false)) hF (by simp [F3,h27]) (by simp [F3,h27])
    ·rintro ⟨v26,v27⟩ hF
     try dsimp only at hF
     unfold AaB.J4 at hF;refine AW.midF (α:=((List (Int×Int))×(List Int)×Nat×Int)) (fun (v28,v29,v30,v31)=>AaB.J5 k v14 v17 v19 v25 (fun v16_ v17_ v18_ v19_ v20_=>AaB.L2 k v14 v15 (fun v10_ v11_ v12_ v13_=>AaB.L1 k v0 v1 v2 v3 v4 v5 v6 v7 v8 n1 v10_ v11_ v12_ v13_) n2 v16_ v17_ v18_ v19_ v20_) v28 v29 v30 v31=some v9) (fun (v28,v29,v30,v31)=>[(1,Iz v8),(2,AV.ptr 1 0),(5,AV.map 2),(6,AV.ptr 3 0),(7,AV.slc 5 v30 1 (v29.length-v30) false),(8,Iz v14),(10,Iz v25),(11,Iz v31),(40,Lz v15),(41,Iz (v15.length : Int)),(42,Iz v17)]) (fun (v28,v29,v30,v31)=>(4,.mp (AdT v19))::(0,.mp (mpA (AV.int .i64) AV.bool v6))::(1,AaO v0 v1 v2 v3 v4 v5 v7)::(2,.mp (mpA (AV.int .i64) (AV.int .i64) v28))::(3,.cells [AV.map 4])::(5,Ci v29)::fam v19) 2000 (fun K5770 hK5770=>?_) ?_
     ·refine SQ [] [none,none] fun _ _ g r=>?_;try simp [F3]
      and_intros <;> first | exact GK g | apply r | omega | (simp [maxLen,F3] <;> omega)
      refine WK [(1,Iz v8),(2,AV.ptr 1 0),(5,AV.map 2),(6,AV.ptr 3 0),(7,AV.slc 5 v16 1 (v20.length-v16) false),(8,Iz v14),(10,Iz v25),(11,Iz v26),(40,Lz v15),(41,Iz (v15.length : Int)),(42,Iz v17),(53,AV.bool (!v27))] ((4,.mp (AdT v19))::(0,.mp (mpA (AV.int .i64) AV.bool v6))::(1,AaO v0 v1 v2 v3 v4 v5 v7)::(2,.mp (mpA (AV.int .i64) (AV.int .i64) v18))::(3,.cells [AV.map 4])::(5,Ci v20)::fam v19) 2000 (by simp [F3]) (by simp [F3]) ?_;by_cases h21 : (!v27)=true
      ·replace hF:=AaZ h21 hF;have h21_:=h21;try simp at h21_
       have F4:=A3 F3 h21 h21_;refine CT (by simp [F4] <;> omega) ?_;refine AW.midF (α:=((List (Int×Int))×Int)) (fun (v35,v36)=>AaB.J7 k v14 v16 v17 v19 v20 v25 (fun v16_ v17_ v18_ v19_ v20_=>AaB.L2 k v14 v15 (fun v10_ v11_ v12_ v13_=>AaB.L1 k v0 v1 v2 v3 v4 v5 v6 v7 v8 n1 v10_ v11_ v12_ v13_) n2 v16_ v17_ v18_ v19_ v20_) v35 v36=some v9) (fun (v35,v36)=>[(1,Iz v8),(2,AV.ptr 1 0),(5,AV.map 2),(6,AV.ptr 3 0),(7,AV.slc 5 v16 1 (v20.length-v16) false),(8,Iz v14),(10,Iz v25),(11,Iz v36),(40,Lz v15),(41,Iz (v15.length : Int)),(42,Iz v17)]) (fun (v35,v36)=>(4,.mp (AdT v19))::(0,.mp (mpA (AV.int .i64) AV.bool v6))::(1,AaO v0 v1 v2 v3 v4 v5 v7)::(2,.mp (mpA (AV.int .i64) (AV.int .i64) v35))::(3,.cells [AV.map 4])::(5,Ci v20)::fam v19) 2000 (fun K5774 hK5774=>?_) ?_
       ·refine RG [] [none,none,none,none,none,none,none,none,none,none,none,none] fun _ _ g r=>?_;rcases Ab0 hF with ⟨v37,h24,hF⟩ | ⟨h25,hF⟩
        ·try simp [F4,h24]
         and_intros <;> first | exact GK g | apply r | omega | (simp [maxLen,F4,h24] <;> omega)
         refine hK5774 _ _ _ ?_;exact JN ((AbE v18 v25 (IntKind.wrap .i64 (v37+1)),IntKind.wrap .i64 (v37+1))) hF (by simp [F4,h24]) (by simp [F4,h24])
        ·try simp [F4,h25]
         and_intros <;> first | exact GK g | apply r | omega | (simp [maxLen,F4,h25] <;> omega)
         refine hK5774 _ _ _ ?_;exact JN ((AbE v18 v25 (IntKind.wrap .i64 (0+1)),IntKind.wrap .i64 (0+1))) hF (by simp [F4,h25]) (by simp [F4,h25])
       ·rintro ⟨v35,v36⟩ hF
        try dsimp only at hF
        unfold AaB.J7 at hF;refine RG [] [none,none,none,none,none] fun _ _ g r=>?_;obtain ⟨⟨h22,h23⟩,hF⟩:=AaR hF;have h22_:=h22;try simp at h22_
        have F5:=A4 F4 h22 h22_ h23;try simp [F5]
        and_intros <;> first | exact GK g | apply r | omega | (simp [maxLen,F5] <;> omega)
        refine hK5770 _ _ _ ?_;refine Can.weak [(1,Iz v8),(2,AV.ptr 1 0),(5,AV.map 2),(6,AV.ptr 3 0),(7,AV.slc 2000 0 1 (((v20.drop v16)++([v25] : List Int)).length) false),(8,Iz v14),(10,Iz v25),(11,Iz v36),(40,Lz v15),(41,Iz (v15.length : Int)),(42,Iz v17)] ((4,.mp (AdT v19))::(0,.mp (mpA (AV.int .i64) AV.bool v6))::(1,AaO v0 v1 v2 v3 v4 v5 v7)::(2,.mp (mpA (AV.int .i64) (AV.int .i64) v35))::(3,.cells [AV.map 4])::(2000,Ci ((v20.drop v16)++([v25] : List Int)))::fam v19) 2001 (by simp [F5] <;> omega) (by simp [F5]) (by simp) ?_;refine Can.renF (m0:=1) h0 v19 4 4 [(0,0),(1,1),(2,2),(3,3),(5,2000)] [(1,Iz v8),(2,AV.ptr 1 0),(5,AV.map 2),(6,AV.ptr 3 0),(7,AV.slc 5 0 1 (((v20.drop v16)++([v25] : List Int)).length) false),(8,Iz v14),(10,Iz v25),(11,Iz v36),(40,Lz v15),(41,Iz (v15.length : Int)),(42,Iz v17)] [(0,.mp (mpA (AV.int .i64) AV.bool v6)),(1,AaO v0 v1 v2 v3 v4 v5 v7),(2,.mp (mpA (AV.int .i64) (AV.int .i64) v35)),(3,.cells [AV.map 4]),(5,Ci ((v20.drop v16)++([v25] : List Int)))] (by decide) (by decide) (by decide) rfl (by simp [F5]) (by simp [F5]) (by simp [F5]) (by simp [F5]) ?_;exact JN ((v35,(v20.drop v16)++([v25] : List Int),0,v36)) hF (by simp [F5]) (by simp [F5])
      ·replace hF:=Aaa h21 hF;have h21_:=h21;try simp at h21_
       have F6:=A3 F3 h21 h21_;refine CF (by simp [F6] <;> omega) ?_;refine AW.skip ?_;refine hK5770 _ _ _ ?_;exact JN ((v18,v20,v16,v26)) hF (by simp [F6]) (by simp [F6])
     ·rintro ⟨v28,v29,v30,v31⟩ hF
      try dsimp only at hF
      unfold AaB.J5 at hF;refine AW.midF (α:=Bool) (fun v32=>AaB.J6 k v14 v17 v19 v25 v28 v29 v30 (fun v16_ v17_ v18_ v19_ v20_=>AaB.L2 k v14 v15 (fun v10_ v11_ v12_ v13_=>AaB.L1 k v0 v1 v2 v3 v4 v5 v6 v7 v8 n1 v10_ v11_ v12_ v13_) n2 v16_ v17_ v18_ v19_ v20_) v32=some v9) (fun v32=>[(1,Iz v8),(2,AV.ptr 1 0),(5,AV.map 2),(6,AV.ptr 3 0),(7,AV.slc 5 v30 1 (v29.length-v30) false),(8,Iz v14),(10,Iz v25),(40,Lz v15),(41,Iz (v15.length : Int)),(42,Iz v17),(73,AV.bool v32)]) (fun v32=>(4,.mp (AdT v19))::(0,.mp (mpA (AV.int .i64) AV.bool v6))::(1,AaO v0 v1 v2 v3 v4 v5 v7)::(2,.mp (mpA (AV.int .i64) (AV.int .i64) v28))::(3,.cells [AV.map 4])::(5,Ci v29)::fam v19) 2000 (fun K5769 hK5769=>?_) ?_
      ·refine RG [] [none,none,none,none,none,none] fun _ _ g r=>?_;rcases Ab0 hF with ⟨v34,h19,hF⟩ | ⟨h20,hF⟩
       ·try simp [F3,h19]
        and_intros <;> first | exact GK g | apply r | omega | (simp [maxLen,F3,h19] <;> omega)
        refine hK5769 _ _ _ ?_;exact JN ((v31==(IntKind.wrap .i64 (v34+1)))) hF (by simp [F3,h19]) (by simp [F3,h19])
       ·try simp [F3,h20]
        and_intros <;> first | exact GK g | apply r | omega | (simp [maxLen,F3,h20] <;> omega)
        refine hK5769 _ _ _ ?_;exact JN ((v31==(IntKind.wrap .i64 (0+1)))) hF (by simp [F3,h20]) (by simp [F3,h20])
      ·rintro v32 hF
       try dsimp only at hF
       unfold AaB.J6 at hF;by_cases h13 : v32=true
       ·replace hF:=AaZ h13 hF;have h13_:=h13;try simp at h13_
        have F7:=A3 F3 h13 h13_;refine CT (by simp [F7] <;> omega) ?_;refine RG [81] [none,none,none,none,none,none,none,none,none] fun _ _ g r=>?_;obtain ⟨h14,hF⟩:=AaR hF;have h14f:=Akm (y:=v25) h14;rcases Ab0 hF with ⟨v33,h15,hF⟩ | ⟨h16,hF⟩
        ·have h15g:=AkC h14 h15;have h15h:=AoU h14 h15;obtain ⟨h17,hF⟩:=AaR hF;have h17_:=h17;try simp at h17_
         have F8:=A6 F7 h14 h15 h15g h15h h17;try simp [F8]
         and_intros <;> first | exact g _ (by rw [Bool.not_true,Bool.false_or]; exact Afj [([3],[]),([],[]),([3],[]),([],[]),([4],[]),([],[]),([],[]),([999],[999,2000]),([4],[4])] (fun z=>if z=999 then fnm v19 v25 else z) [3,4,999,2000] (by simp only [List.forall_mem_cons,List.not_mem_nil,false_implies,implies_true,and_true]; and_intros <;> first | trivial | (intro h; first | rfl | (exfalso; simp [h14] at h; done))) (by decide) (by kernel_rfl)) | apply r | omega | (simp [maxLen,F8] <;> omega)
         refine hK5760 _ _ _ ?_;refine Can.famPut (m0:=1) h0 v19 4 2000 v25 (v33++([v14] : List Int)) [(1,Iz v8),(2,AV.ptr 1 0),(5,AV.map 2),(6,AV.ptr 3 0),(7,AV.slc 5 v30 1 (v29.length-v30) false),(8,Iz v14),(40,Lz v15),(41,Iz (v15.length : Int)),(42,Iz v17)] [(0,.mp (mpA (AV.int .i64) AV.bool v6)),(1,AaO v0 v1 v2 v3 v4 v5 v7),(2,.mp (mpA (AV.int .i64) (AV.int .i64) v28)),(3,.cells [AV.map 4]),(5,Ci v29)] (by decide) (by decide) (by simp) (by simp) h14 (by simp [F8]) (by simp [F8]) (by simp [F8]) (by simp [F8]) (by simp [F8]) ?_;exact JN ((v28,AbE v19 v25 (v33++([v14] : List Int)),v29,v30)) hF (by simp [F8]) (by simp [F8])
        ·have h16g:=AkD h14 h16;obtain ⟨h18,hF⟩:=AaR hF;have h18_:=h18;try simp at h18_
         have F9:=A5 F7 h14 h16 h16g h18;try simp [F9]
         and_intros <;> first | exact GK g | apply r | omega | (simp [maxLen,F9] <;> omega)
         refine hK5760 _ _ _ ?_;refine Can.famPut (m0:=1) h0 v19 4 2000 v25 ([v14] : List Int) [(1,Iz v8),(2,AV.ptr 1 0),(5,AV.map 2),(6,AV.ptr 3 0),(7,AV.slc 5 v30 1 (v29.length-v30) false),(8,Iz v14),(40,Lz v15),(41,Iz (v15.length : Int)),(42,Iz v17)] [(0,.mp (mpA (AV.int .i64) AV.bool v6)),(1,AaO v0 v1 v2 v3 v4 v5 v7),(2,.mp (mpA (AV.int .i64) (AV.int .i64) v28)),(3,.cells [AV.map 4]),(5,Ci v29)] (by decide) (by decide) (by simp) (by simp) h14 (by simp [F9]) (by simp [F9]) (by simp [F9]) (by simp [F9]) (by simp [F9]) ?_;exact JN ((v28,AbE v19 v25 ([v14] : List Int),v29,v30)) hF (by simp [F9]) (by simp [F9])
       ·replace hF:=Aaa h13 hF;have h13_:=h13;try simp at h13_
        have F10:=A3 F3 h13 h13_;refine CF (by simp [F10] <;> omega) ?_;refine AW.skip ?_;refine hK5760 _ _ _ ?_;exact JN ((v28,v19,v29,v30)) hF (by simp [F10]) (by simp [F10])
   ·rintro ⟨v21,v22,v23,v24⟩ hF
    try dsimp only at hF
    unfold AaB.J3 at hF;refine RG [] [none,none] fun _ _ g r=>?_;try simp [F2]
    and_intros <;> first | exact GK g | apply r | omega | (simp [maxLen,F2] <;> omega)
    refine hK5741 _ _ _ ?_;exact NX (k':=n2) ((v24,IntKind.wrap .i64 (v17+1),v21,v22,v23)) hF (by simp [F2]) (by simp [F2])
  ·replace hF:=Aaa h9 hF;have h9_:=h9;try simp at h9_
   have F11:=A3 F1 h9 h9_;refine CF (by simp [F11] <;> omega) ?_;refine AW.exit ?_;try simp
   refine hK5636 _ _ _ ?_;refine RG [] [none,none,none] fun _ _ g r=>?_;have h28b : v20.length-v16-1=v20.length-(v16+1):=by omega
   obtain ⟨⟨h28,h29⟩,hF⟩:=AaR hF;have h28n:=Ac6 h28;have h28_:=h28;try simp at h28_
   have h29_:=h29;try simp at h29_
   have F12:=A7 F11 h28 h29 h28_ h29_ h28n h28b;try simp [F12]
   and_intros <;> first | exact GK g | apply r | omega | (simp [maxLen,F12] <;> omega)
   refine hK5493 _ _ _ ?_;exact NX (k':=n1) ((v16+(1 : Int).toNat,v18,v19,v20)) hF (by simp [F12]) (by simp [F12])
 ·replace hF:=Aaa h1 hF;have h1_:=h1;try simp at h1_
  refine CF (by simp [h1,h1_] <;> omega) ?_;refine AW.exit ?_;try simp
  refine hK4642 _ _ _ ?_;refine AW.seq fun K5782 hK5782=>?_;refine WK [(1,Iz v8),(2,AV.ptr 1 0),(5,AV.map 2),(6,AV.ptr 3 0)] ((4,.mp (AdT v12))::(0,.mp (mpA (AV.int .i64) AV.bool v6))::(1,AaO v0 v1 v2 v3 v4 v5 v7)::(2,.mp (mpA (AV.int .i64) (AV.int .i64) v11))::(3,.cells [AV.map 4])::fam v12) 2000 (by simp [h1,h1_]) (by simp [h1,h1_]) ?_;obtain ⟨h30,hF⟩:=AaR hF;refine AW.frzM v12 4 [(1,Iz v8),(2,AV.ptr 1 0),(5,AV.map 2),(6,AV.ptr 3 0)] [(0,.mp (mpA (AV.int .i64) AV.bool v6)),(1,AaO v0 v1 v2 v3 v4 v5 v7),(2,.mp (mpA (AV.int .i64) (AV.int .i64) v11)),(3,.cells [AV.map 4])] (by decide) (by simp) (by simp) h30 ?_;refine AW.midF (α:=(Int×Bool)) (fun (v39,v40)=>AaB.J8 k v0 v1 v2 v3 v4 v5 v6 v7 v8 v12 v39 v40=some v9) (fun (v39,v40)=>[(1,Iz v8),(2,AV.ptr 1 0),(6,AV.ptr 2 0),(13,Iz v39),(14,AV.bool v40)]) (fun (v39,v40)=>[(0,.mp (mpA (AV.int .i64) AV.bool v6)),(1,AaO v0 v1 v2 v3 v4 v5 v7),(2,.cells [AV.map 3]),(3,.mp (mpA (AV.int .i64) (sl (AV.int .i64)) v12))]) 4 (fun K7008 hK7008=>?_) ?_
  ·refine RG [] [none,none,none,none,none,none,none,none,none] fun _ _ g r=>?_;rcases Ab0 hF with ⟨v62,h63,hF⟩ | ⟨h64,hF⟩
   ·have F13:=A3 h1 h1_ h63;try simp [F13]
    and_intros <;> first | exact GK g | apply r | omega | (simp [maxLen,F13] <;> omega)
    refine hK7008 _ _ _ ?_;refine Can.weak [(1,Iz v8),(2,AV.ptr 1 0),(6,AV.ptr 3 0),(13,Iz v62),(14,AV.bool true)] [(0,.mp (mpA (AV.int .i64) AV.bool v6)),(1,AaO v0 v1 v2 v3 v4 v5 v7),(3,.cells [AV.map 4]),(4,.mp (mpA (AV.int .i64) (sl (AV.int .i64)) v12))] 2000 (by simp [F13]) (by simp [F13]) (by simp) ?_;refine Can.ren (m:=1) h0 [(0,0),(1,1),(2,3),(3,4)] [(1,Iz v8),(2,AV.ptr 1 0),(6,AV.ptr 2 0),(13,Iz v62),(14,AV.bool true)] [(0,.mp (mpA (AV.int .i64) AV.bool v6)),(1,AaO v0 v1 v2 v3 v4 v5 v7),(2,.cells [AV.map 3]),(3,.mp (mpA (AV.int .i64) (sl (AV.int .i64)) v12))] 4 (by decide) (by decide) (by decide) rfl (by simp [F13]) (by simp [F13]) ?_;exact JN ((v62,true)) hF (by simp [F13]) (by simp [F13])
   ·have F14:=A3 h1 h1_ h64;try simp [F14]
    and_intros <;> first | exact GK g | apply r | omega | (simp [maxLen,F14] <;> omega)
    refine hK7008 _ _ _ ?_;refine Can.weak [(1,Iz v8),(2,AV.ptr 1 0),(6,AV.ptr 3 0),(13,Iz 0),(14,AV.bool false)] [(0,.mp (mpA (AV.int .i64) AV.bool v6)),(1,AaO v0 v1 v2 v3 v4 v5 v7),(3,.cells [AV.map 4]),(4,.mp (mpA (AV.int .i64) (sl (AV.int .i64)) v12))] 2000 (by simp [F14]) (by simp [F14]) (by simp) ?_;refine Can.ren (m:=1) h0 [(0,0),(1,1),(2,3),(3,4)] [(1,Iz v8),(2,AV.ptr 1 0),(6,AV.ptr 2 0),(13,Iz 0),(14,AV.bool false)] [(0,.mp (mpA (AV.int .i64) AV.bool v6)),(1,AaO v0 v1 v2 v3 v4 v5 v7),(2,.cells [AV.map 3]),(3,.mp (mpA (AV.int .i64) (sl (AV.int .i64)) v12))] 4 (by decide) (by decide) (by decide) rfl (by simp [F14]) (by simp [F14]) ?_;exact JN ((0,false)) hF (by simp [F14]) (by simp [F14])
  ·rintro ⟨v39,v40⟩ hF
   try dsimp only at hF
   unfold AaB.J8 at hF;refine SR [] [none,none,none,some (92,false),some (92,false),some (92,false),none] fun _ _ g r=>?_;by_cases h31 : (!v40)=true
   ·replace hF:=AaZ h31 hF;have h31_:=h31;try simp at h31_
    have F15:=A4 h1 h1_ h31 h31_;refine TL F15 g r [1,13,14] [(96,AV.bool true)] [] [] 4 ?_;refine CT (by simp [F15]) ?_;refine SW F15 [] [none] [2,6,96] [(4,AV.lst true true (List.map (AV.int .i64) ([] : List Int)))] [1,2,3] [] 4 ?_;simp only [Option.some.injEq] at hF;subst hF;refine AW.ret (hQ _ _ _ ?_ (AaJ ?_)).1
    ·simp [Try.f62,F15]
    ·simp [F15]
   ·replace hF:=Aaa h31 hF;have h31_:=h31;try simp at h31_
    have F16:=A4 h1 h1_ h31 h31_;refine TL F16 g r [1,13,14] [(96,AV.bool (decide (v8<v39)))] [] [] 4 ?_;by_cases h32 : v8<v39
    ·replace hF:=AaZ h32 hF;have h32_:=h32;try simp at h32_
     have F17:=A3 F16 h32 h32_;refine CT (by simp [F17] <;> omega) ?_;refine SW F17 [] [none] [2,6,96] [(4,AV.lst true true (List.map (AV.int .i64) ([] : List Int)))] [1,2,3] [] 4 ?_;simp only [Option.some.injEq] at hF;subst hF;refine AW.ret (hQ _ _ _ ?_ (AaJ ?_)).1
     ·simp [Try.f62,F17]
     ·simp [F17]
    ·replace hF:=Aaa h32 hF;have h32_:=h32;try simp at h32_
     have F18:=A3 F16 h32 h32_;refine CF (by simp [F18] <;> omega) ?_;refine AW.skip ?_;refine hK5782 _ _ _ ?_;refine SW F18 [] [none,none,none,none,none,none,none] [96] [(15,AV.ptr 5 0)] [] [(4,.mp (mpA (AV.int .i64) AV.bool (AbE ([] : (List (Int×Bool))) v5 true))),(5,.cells [AV.map 4])] 6 ?_;refine AW.seq fun K6346 hK6346=>?_;refine SW F18 [103] [none,none,none,none] [] [(16,AV.slc 6 0 1 (([v5] : List Int).length) true)] [] [(6,Ci ([v5] : List Int))] 7 ?_;refine AW.block ?_;refine AW.rnm (m:=1) h0 [(0,0),(1,1),(2,2),(3,3),(4,5),(5,4),(6,6)] [(2,AV.ptr 1 0),(6,AV.ptr 2 0),(15,AV.ptr 4 0),(16,AV.slc 6 0 1 (([v5] : List Int).length) true)] [(0,.mp (mpA (AV.int .i64) AV.bool v6)),(1,AaO v0 v1 v2 v3 v4 v5 v7),(2,.cells [AV.map 3]),(3,.mp (mpA (AV.int .i64) (sl (AV.int .i64)) v12)),(4,.cells [AV.map 5]),(5,.mp (mpA (AV.int .i64) AV.bool (AbE ([] : (List (Int×Bool))) v5 true))),(6,Ci ([v5] : List Int))] 7 (by decide) (by decide) (by decide) rfl (by simp [F18]) (by simp [F18]) ?_;refine AW.flg [(16,AV.slc 6 0 1 (([v5] : List Int).length) false)] [] ⟨.slc,trivial⟩ trivial (by simp) ?_;refine AW.loopF (α:=(Nat×(List (Int×Bool))×(List Int))) (fun n (v41,v42,v43)=>AaB.L9 k v0 v1 v2 v3 v4 v5 v6 v7 v12 n v41 v42 v43=some v9) (fun (v41,v42,v43)=>[(2,AV.ptr 1 0),(6,AV.ptr 2 0),(15,AV.ptr 4 0),(16,AV.slc 6 v41 1 (v43.length-v41) false)]) (fun (v41,v42,v43)=>[(0,.mp (mpA (AV.int .i64) AV.bool v6)),(1,AaO v0 v1 v2 v3 v4 v5 v7),(2,.cells [AV.map 3]),(3,.mp (mpA (AV.int .i64) (sl (AV.int .i64)) v12)),(4,.cells [AV.map 5]),(5,.mp (mpA (AV.int .i64) AV.bool v42)),(6,Ci v43)]) 7 k ((0,AbE ([] : (List (Int×Bool))) v5 true,([v5] : List Int))) hF (by simp [F18]) (by simp [F18]) (by simp) ?_;rintro (_|n9) ⟨v41,v42,v43⟩ hF K6765 hK6765
     ·try dsimp only at hF
      rw [AaB.L9] at hF; cases hF
     try dsimp only at hF
     rw [AaB.L9] at hF;refine AW.seq fun K6767 hK6767=>?_;refine SW F18 [] [none,none,none] [] [(106,AV.bool (decide (0<(((v43.length-v41) : Nat) : Int))))] [] [] 7 ?_;by_cases h33 : 0<(((v43.length-v41) : Nat) : Int)
     ·replace hF:=AaZ h33 hF;have h33_:=h33;try simp at h33_
      have F19:=A3 F18 h33 h33_;refine CT (by simp [F19] <;> omega) ?_;refine AW.skip ?_;refine hK6767 _ _ _ ?_;refine AW.seq fun K6836 hK6836=>?_;refine AW.block ?_;refine AW.midF (α:=((List Int)×Int)) (fun (v44,v45)=>AaB.J10 k v41 v42 v43 (fun v41_ v42_ v43_=>AaB.L9 k v0 v1 v2 v3 v4 v5 v6 v7 v12 n9 v41_ v42_ v43_) v44 v45=some v9) (fun (v44,v45)=>[(2,AV.ptr 1 0),(6,AV.ptr 2 0),(15,AV.ptr 4 0),(16,AV.slc 6 v41 1 (v43.length-v41) false),(113,Lz v44),(114,Iz v45),(115,Iz 0)]) (fun (v44,v45)=>[(0,.mp (mpA (AV.int .i64) AV.bool v6)),(1,AaO v0 v1 v2 v3 v4 v5 v7),(2,.cells [AV.map 3]),(3,.mp (mpA (AV.int .i64) (sl (AV.int .i64)) v12)),(4,.cells [AV.map 5]),(5,.mp (mpA (AV.int .i64) AV.bool v42)),(6,Ci v43)]) 7 (fun K6904 hK6904=>?_) ?_
      ·refine RG [] [none,none,none,none,none,none,none] fun _ _ g r=>?_;obtain ⟨⟨h47,h49,h48⟩,hF⟩:=AaR hF;have h48_:=Aa3 h48;obtain ⟨v55,h50,h51,h52,hF⟩:=Aad hF;have h52_:=Aas h52;try simp at h52_
       have h51_:=h51;try simp at h51_
       rcases Ab0 hF with ⟨v56,h53,hF⟩ | ⟨h54,hF⟩
       ·have F20:=A9 F19 h47 h48 h49 h48_ h50 h51 h52 (A3 h52_ h51_ h53);try simp [F20]
        and_intros <;> first | exact GK g | apply r | omega | (simp [maxLen,F20] <;> omega)
        refine hK6904 _ _ _ ?_;exact JN ((v56,(v56.length : Int))) hF (by simp [F20]) (by simp [F20])
       ·have F21:=A9 F19 h47 h48 h49 h48_ h50 h51 h52 (A3 h52_ h51_ h54);try simp [F21]
        and_intros <;> first | exact GK g | apply r | omega | (simp [maxLen,F21] <;> omega)
        refine hK6904 _ _ _ ?_;refine Can.weak [(2,AV.ptr 1 0),(6,AV.ptr 2 0),(15,AV.ptr 4 0),(16,AV.slc 6 v41 1 (v43.length-v41) false),(113,AV.lst true true (List.map (AV.int .i64) ([] : List Int))),(114,Iz (([] : List Int).length : Int)),(115,Iz 0)] [(0,.mp (mpA (AV.int .i64) AV.bool v6)),(1,AaO v0 v1 v2 v3 v4 v5 v7),(2,.cells [AV.map 3]),(3,.mp (mpA (AV.int .i64) (sl (AV.int .i64)) v12)),(4,.cells [AV.map 5]),(5,.mp (mpA (AV.int .i64) AV.bool v42)),(6,Ci v43)] 7 (by simp [F21]) (by simp [F21]) (by simp) ?_;refine Can.flg [(113,Lz ([] : List Int))] [] ⟨(.lst (by simp)),trivial⟩ trivial (by simp) ?_;exact JN ((([] : List Int),(([] : List Int).length : Int))) hF (by simp [F21]) (by simp [F21])
      ·rintro ⟨v44,v45⟩ hF
       try dsimp only at hF
       unfold AaB.J10 at hF;refine AW.block ?_;refine AW.loopF (α:=(Nat×Int×(List (Int×Bool))×(List Int))) (fun n (v46,v47,v48,v49)=>AaB.L11 k v44 v45 (fun v41_ v42_ v43_=>AaB.L9 k v0 v1 v2 v3 v4 v5 v6 v7 v12 n9 v41_ v42_ v43_) n v46 v47 v48 v49=some v9) (fun (v46,v47,v48,v49)=>[(2,AV.ptr 1 0),(6,AV.ptr 2 0),(15,AV.ptr 4 0),(16,AV.slc 6 v46 1 (v49.length-v46) false),(113,Lz v44),(114,Iz v45),(115,Iz v47)]) (fun (v46,v47,v48,v49)=>[(0,.mp (mpA (AV.int .i64) AV.bool v6)),(1,AaO v0 v1 v2 v3 v4 v5 v7),(2,.cells [AV.map 3]),(3,.mp (mpA (AV.int .i64) (sl (AV.int .i64)) v12)),(4,.cells [AV.map 5]),(5,.mp (mpA (AV.int .i64) AV.bool v48)),(6,Ci v49)]) 7 k ((v41,0,v42,v43)) hF (by simp [F19]) (by simp [F19]) (by simp) ?_;rintro (_|n11) ⟨v46,v47,v48,v49⟩ hF K6886 hK6886
       ·try dsimp only at hF
        rw [AaB.L11] at hF; cases hF
       try dsimp only at hF
       rw [AaB.L11] at hF;refine SW F19 [] [none] [] [(116,AV.bool (decide (v47<v45)))] [] [] 7 ?_;refine AW.seq fun K6888 hK6888=>?_;by_cases h34 : v47<v45
       ·replace hF:=AaZ h34 hF;have h34_:=h34;try simp at h34_
        have F22:=A3 F19 h34 h34_;refine CT (by simp [F22] <;> omega) ?_;refine AW.skip ?_;refine hK6888 _ _ _ ?_;refine AW.midF (α:=((List (Int×Bool))×(List Int)×Nat)) (fun (v50,v51,v52)=>AaB.J12 k v47 (fun v46_ v47_ v48_ v49_=>AaB.L11 k v44 v45 (fun v41_ v42_ v43_=>AaB.L9 k v0 v1 v2 v3 v4 v5 v6 v7 v12 n9 v41_ v42_ v43_) n11 v46_ v47_ v48_ v49_) v50 v51 v52=some v9) (fun (v50,v51,v52)=>[(2,AV.ptr 1 0),(6,AV.ptr 2 0),(15,AV.ptr 4 0),(16,AV.slc 6 v52 1 (v51.length-v52) false),(113,Lz v44),(114,Iz v45),(115,Iz v47)]) (fun (v50,v51,v52)=>[(0,.mp (mpA (AV.int .i64) AV.bool v6)),(1,AaO v0 v1 v2 v3 v4 v5 v7),(2,.cells [AV.map 3]),(3,.mp (mpA (AV.int .i64) (sl (AV.int .i64)) v12)),(4,.cells [AV.map 5]),(5,.mp (mpA (AV.int .i64) AV.bool v50)),(6,Ci v51)]) 7 (fun K6896 hK6896=>?_) ?_
        ·refine AW.block ?_;refine SR [] [none,none,none] fun _ _ g r=>?_;obtain ⟨v53,h35,h36,h37,hF⟩:=Aad hF;have h37_:=Aas h37;try simp at h37_
         have h36_:=h36;try simp at h36_
         have F23:=A6 F22 h35 h36 h37 h37_ h36_;refine TL F23 g r [] [(18,Iz v53)] [] [] 7 ?_;refine SR [] [none,none,none,none] fun _ _ g r=>?_;rcases Ab0 hF with ⟨v54,h38,hF⟩ | ⟨h39,hF⟩
         ·refine TL (A2 F23 h38) g r [] [(122,AV.bool (!v54))] [] [] 7 ?_;by_cases h40 : (!v54)=true
          ·replace hF:=AaZ h40 hF;have h40_:=h40;try simp at h40_
           have F24:=A4 F23 h38 h40 h40_;refine CT (by simp [F24] <;> omega) ?_;refine SW F24 [] [none,none,none] [122] [] [5] [(5,.mp (mpA (AV.int .i64) AV.bool (AbE v48 v53 true)))] 7 ?_;refine RG [] [none,none,none,none,none] fun _ _ g r=>?_;obtain ⟨⟨h41,h42⟩,hF⟩:=AaR hF;have h41_:=h41;try simp at h41_
           have F25:=A4 F24 h41 h41_ h42;try simp [F25]
           and_intros <;> first | exact GK g | apply r | omega | (simp [maxLen,F25] <;> omega)
           refine hK6896 _ _ _ ?_;refine Can.weak [(2,AV.ptr 1 0),(6,AV.ptr 2 0),(15,AV.ptr 4 0),(16,AV.slc 7 0 1 (((v49.drop v46)++([v53] : List Int)).length) false),(113,Lz v44),(114,Iz v45),(115,Iz v47)] [(0,.mp (mpA (AV.int .i64) AV.bool v6)),(1,AaO v0 v1 v2 v3 v4 v5 v7),(2,.cells [AV.map 3]),(3,.mp (mpA (AV.int .i64) (sl (AV.int .i64)) v12)),(4,.cells [AV.map 5]),(5,.mp (mpA (AV.int .i64) AV.bool (AbE v48 v53 true))),(7,Ci ((v49.drop v46)++([v53] : List Int)))] 8 (by simp [F25] <;> omega) (by simp [F25]) (by simp) ?_;refine Can.ren (m:=1) h0 [(0,0),(1,1),(2,2),(3,3),(4,4),(5,5),(6,7)] [(2,AV.ptr 1 0),(6,AV.ptr 2 0),(15,AV.ptr 4 0),(16,AV.slc 6 0 1 (((v49.drop v46)++([v53] : List Int)).length) false),(113,Lz v44),(114,Iz v45),(115,Iz v47)] [(0,.mp (mpA (AV.int .i64) AV.bool v6)),(1,AaO v0 v1 v2 v3 v4 v5 v7),(2,.cells [AV.map 3]),(3,.mp (mpA (AV.int .i64) (sl (AV.int .i64)) v12)),(4,.cells [AV.map 5]),(5,.mp (mpA (AV.int .i64) AV.bool (AbE v48 v53 true))),(6,Ci ((v49.drop v46)++([v53] : List Int)))] 7 (by decide) (by decide) (by decide) rfl (by simp [F25]) (by simp [F25]) ?_;exact JN ((AbE v48 v53 true,(v49.drop v46)++([v53] : List Int),0)) hF (by simp [F25]) (by simp [F25])
          ·replace hF:=Aaa h40 hF;have h40_:=h40;try simp at h40_
           have F26:=A4 F23 h38 h40 h40_;refine CF (by simp [F26] <;> omega) ?_;refine AW.skip ?_;refine hK6896 _ _ _ ?_;exact JN ((v48,v49,v46)) hF (by simp [F26]) (by simp [F26])
         ·have F27:=A2 F23 h39;refine TL F27 g r [] [(122,AV.bool true)] [] [] 7 ?_;refine CT (by simp [F27]) ?_;refine SW F27 [] [none,none,none] [122] [] [5] [(5,.mp (mpA (AV.int .i64) AV.bool (AbE v48 v53 true)))] 7 ?_;refine RG [] [none,none,none,none,none] fun _ _ g r=>?_;obtain ⟨⟨h43,h44⟩,hF⟩:=AaR hF;have h43_:=h43;try simp at h43_
          have F28:=A4 F27 h43 h43_ h44;try simp [F28]
          and_intros <;> first | exact GK g | apply r | omega | (simp [maxLen,F28] <;> omega)
          refine hK6896 _ _ _ ?_;refine Can.weak [(2,AV.ptr 1 0),(6,AV.ptr 2 0),(15,AV.ptr 4 0),(16,AV.slc 7 0 1 (((v49.drop v46)++([v53] : List Int)).length) false),(113,Lz v44),(114,Iz v45),(115,Iz v47)] [(0,.mp (mpA (AV.int .i64) AV.bool v6)),(1,AaO v0 v1 v2 v3 v4 v5 v7),(2,.cells [AV.map 3]),(3,.mp (mpA (AV.int .i64) (sl (AV.int .i64)) v12)),(4,.cells [AV.map 5]),(5,.mp (mpA (AV.int .i64) AV.bool (AbE v48 v53 true))),(7,Ci ((v49.drop v46)++([v53] : List Int)))] 8 (by simp [F28] <;> omega) (by simp [F28]) (by simp) ?_;refine Can.ren (m:=1) h0 [(0,0),(1,1),(2,2),(3,3),(4,4),(5,5),(6,7)] [(2,AV.ptr 1 0),(6,AV.ptr 2 0),(15,AV.ptr 4 0),(16,AV.slc 6 0 1 (((v49.drop v46)++([v53] : List Int)).length) false),(113,Lz v44),(114,Iz v45),(115,Iz v47)] [(0,.mp (mpA (AV.int .i64) AV.bool v6)),(1,AaO v0 v1 v2 v3 v4 v5 v7),(2,.cells [AV.map 3]),(3,.mp (mpA (AV.int .i64) (sl (AV.int .i64)) v12)),(4,.cells [AV.map 5]),(5,.mp (mpA (AV.int .i64) AV.bool (AbE v48 v53 true))),(6,Ci ((v49.drop v46)++([v53] : List Int)))] 7 (by decide) (by decide) (by decide) rfl (by simp [F28]) (by simp [F28]) ?_;exact JN ((AbE v48 v53 true,(v49.drop v46)++([v53] : List Int),0)) hF (by simp [F28]) (by simp [F28])
        ·rintro ⟨v50,v51,v52⟩ hF
         try dsimp only at hF
         unfold AaB.J12 at hF;refine RG [] [none,none] fun _ _ g r=>?_;try simp [F22]
         and_intros <;> first | exact GK g | apply r | omega | (simp [maxLen,F22] <;> omega)
         refine hK6886 _ _ _ ?_;exact NX (k':=n11) ((v52,IntKind.wrap .i64 (v47+1),v50,v51)) hF (by simp [F22]) (by simp [F22])
       ·replace hF:=Aaa h34 hF;have h34_:=h34;try simp at h34_
        have F29:=A3 F19 h34 h34_;refine CF (by simp [F29] <;> omega) ?_;refine AW.exit ?_;try simp
        refine hK6836 _ _ _ ?_;refine RG [] [none,none,none] fun _ _ g r=>?_;have h45b : v49.length-v46-1=v49.length-(v46+1):=by omega
        obtain ⟨⟨h45,h46⟩,hF⟩:=AaR hF;have h45n:=Ac6 h45;have h45_:=h45;try simp at h45_
        have h46_:=h46;try simp at h46_
        have F30:=A7 F29 h45 h46 h45_ h46_ h45n h45b;try simp [F30]
        and_intros <;> first | exact GK g | apply r | omega | (simp [maxLen,F30] <;> omega)
        refine hK6765 _ _ _ ?_;exact NX (k':=n9) ((v46+(1 : Int).toNat,v48,v49)) hF (by simp [F30]) (by simp [F30])
     ·replace hF:=Aaa h33 hF;have h33_:=h33;try simp at h33_
      have F31:=A3 F18 h33 h33_;refine CF (by simp [F31] <;> omega) ?_;refine AW.exit ?_;try simp
      refine hK6346 _ _ _ ?_;refine SW F31 [132] [none,none,none,none] [16] [(19,AV.slc 7 0 1 (([v4] : List Int).length) true)] [6] [(7,Ci ([v4] : List Int))] 8 ?_;refine AW.seq fun K6956 hK6956=>?_;refine SW F31 [] [none,none,none,none] [] [(20,AV.ptr 8 0)] [] [(8,.cells [Iz v4])] 9 ?_;refine AW.block ?_;refine AW.rnm (m:=1) h0 [(0,0),(1,1),(2,2),(3,3),(4,4),(5,5),(6,7),(7,8)] [(2,AV.ptr 1 0),(6,AV.ptr 2 0),(15,AV.ptr 4 0),(19,AV.slc 6 0 1 (([v4] : List Int).length) true),(20,AV.ptr 7 0)] [(0,.mp (mpA (AV.int .i64) AV.bool v6)),(1,AaO v0 v1 v2 v3 v4 v5 v7),(2,.cells [AV.map 3]),(3,.mp (mpA (AV.int .i64) (sl (AV.int .i64)) v12)),(4,.cells [AV.map 5]),(5,.mp (mpA (AV.int .i64) AV.bool v42)),(6,Ci ([v4] : List Int)),(7,.cells [Iz v4])] 8 (by decide) (by decide) (by decide) rfl (by simp [F31]) (by simp [F31]) ?_;refine AW.flg [(19,AV.slc 6 0 1 (([v4] : List Int).length) false)] [] ⟨.slc,trivial⟩ trivial (by simp) ?_;refine AW.loopF (α:=((List Int)×Int)) (fun n (v57,v58)=>AaB.L13 k v0 v1 v2 v3 v4 v5 v6 v7 v12 v42 n v57 v58=some v9) (fun (v57,v58)=>[(2,AV.ptr 1 0),(6,AV.ptr 2 0),(15,AV.ptr 4 0),(19,AV.slc 6 0 1 v57.length false),(20,AV.ptr 7 0)]) (fun (v57,v58)=>[(0,.mp (mpA (AV.int .i64) AV.bool v6)),(1,AaO v0 v1 v2 v3 v4 v5 v7),(2,.cells [AV.map 3]),(3,.mp (mpA (AV.int .i64) (sl (AV.int .i64)) v12)),(4,.cells [AV.map 5]),(5,.mp (mpA (AV.int .i64) AV.bool v42)),(6,Ci v57),(7,.cells [Iz v58])]) 8 k ((([v4] : List Int),v4)) hF (by simp [F31]) (by simp [F31]) (by simp) ?_;rintro (_|n13) ⟨v57,v58⟩ hF K6994 hK6994
      ·try dsimp only at hF
       rw [AaB.L13] at hF; cases hF
      try dsimp only at hF
      rw [AaB.L13] at hF;refine AW.seq fun K6996 hK6996=>?_;refine SW F31 [] [none,none,none,none] [] [(138,AV.bool (v58 !=v5))] [] [] 8 ?_;by_cases h55 : v58≠v5
      ·replace hF:=AaZ h55 hF;have h55_:=AbY h55;have h55__:=Abc h55;have F32:=A4 F31 h55 h55_ h55__;refine CT (by simp [F32] <;> omega) ?_;refine AW.skip ?_;refine hK6996 _ _ _ ?_;refine AW.seq fun K7001 hK7001=>?_;refine AW.block ?_;refine SR [] [none,none,none,none] fun _ _ g r=>?_;try simp [F32]
       and_intros
       try any_goals first | omega | (simp [maxLen,F32] <;> omega)
       obtain ⟨v59,h56,hF⟩:=AaN hF;refine AbA (AdW k _ _ _ _ _ _ _ _ _ _ h56) (by simp) [0] [] [] rfl (.cons (.same (by simp [F32])) (.cons (.same (by simp [F32])) .nil)) (by simp [F32]) (by decide) (by simp) (by simp) (.inl rfl) (by simp) (by simp) ?_;refine TL F32 g r [] [(21,Lz v59)] [] [] 8 ?_;refine SR [] [none,none,none,none,none,none,none] fun _ _ g r=>?_;try simp [F32]
       and_intros
       try any_goals first | omega | (simp [maxLen,F32] <;> omega)
       obtain ⟨v60,h57,hF⟩:=AaN hF;refine AbA (Ac1 k _ _ _ _ _ h57) (by simp) [4,5,2,3,7] [] [] rfl (.cons (.same (by simp [F32])) (.cons (.same (by simp [F32])) .nil)) (by simp [F32]) (by decide) (by simp) (by simp) (.inl rfl) (by simp) (by simp) ?_;obtain ⟨v61,h58,h59,h60,hF⟩:=Aad hF;have h60_:=Aas h60;try simp at h60_
       have h59_:=h59;try simp at h59_
       have F33:=A6 F32 h58 h59 h60 h60_ h59_;refine TL F33 g r [21] [] [7] [(7,.cells [Iz v61])] 8 ?_;refine RG [] [none,none,none,none,none] fun _ _ g r=>?_;obtain ⟨h61,hF⟩:=AaR hF;have h61_:=h61;try simp at h61_
       have F34:=A2 F33 h61;try simp [F34]
       and_intros <;> first | exact GK g | apply r | omega | (simp [maxLen,F34] <;> omega)
       refine hK7001 _ _ _ ?_;refine WK [(2,AV.ptr 1 0),(6,AV.ptr 2 0),(15,AV.ptr 4 0),(19,AV.slc 8 0 1 ((v57++([v61] : List Int)).length) false),(20,AV.ptr 7 0)] [(0,.mp (mpA (AV.int .i64) AV.bool v6)),(1,AaO v0 v1 v2 v3 v4 v5 v7),(2,.cells [AV.map 3]),(3,.mp (mpA (AV.int .i64) (sl (AV.int .i64)) v12)),(4,.cells [AV.map 5]),(5,.mp (mpA (AV.int .i64) AV.bool v42)),(7,.cells [Iz v61]),(8,Ci (v57++([v61] : List Int)))] 9 (by simp [F34] <;> omega) (by simp [F34]) ?_;refine SQ [] [none] fun _ _ g r=>?_;try simp [F34]
       and_intros <;> first | exact GK g | apply r | omega | (simp [maxLen,F34] <;> omega)
       refine WK [(2,AV.ptr 1 0),(6,AV.ptr 2 0),(15,AV.ptr 4 0),(19,AV.slc 8 0 1 ((v57++([v61] : List Int)).length) false),(152,Iz v61)] [(0,.mp (mpA (AV.int .i64) AV.bool v6)),(1,AaO v0 v1 v2 v3 v4 v5 v7),(2,.cells [AV.map 3]),(3,.mp (mpA (AV.int .i64) (sl (AV.int .i64)) v12)),(4,.cells [AV.map 5]),(5,.mp (mpA (AV.int .i64) AV.bool v42)),(8,Ci (v57++([v61] : List Int)))] 9 (by simp [F34] <;> omega) (by simp [F34]) ?_;refine RG [] [none,none] fun _ _ g r=>?_;try simp [F34]
       and_intros <;> first | exact GK g | apply r | omega | (simp [maxLen,F34] <;> omega)
       refine hK6994 _ _ _ ?_;refine Can.weak [(2,AV.ptr 1 0),(6,AV.ptr 2 0),(15,AV.ptr 4 0),(19,AV.slc 8 0 1 ((v57++([v61] : List Int)).length) false),(20,AV.ptr 9 0)] [(0,.mp (mpA (AV.int .i64) AV.bool v6)),(1,AaO v0 v1 v2 v3 v4 v5 v7),(2,.cells [AV.map 3]),(3,.mp (mpA (AV.int .i64) (sl (AV.int .i64)) v12)),(4,.cells [AV.map 5]),(5,.mp (mpA (AV.int .i64) AV.bool v42)),(8,Ci (v57++([v61] : List Int))),(9,.cells [Iz v61])] 10 (by simp [F34] <;> omega) (by simp [F34]) (by simp) ?_;refine Can.ren (m:=1) h0 [(0,0),(1,1),(2,2),(3,3),(4,4),(5,5),(6,8),(7,9)] [(2,AV.ptr 1 0),(6,AV.ptr 2 0),(15,AV.ptr 4 0),(19,AV.slc 6 0 1 ((v57++([v61] : List Int)).length) false),(20,AV.ptr 7 0)] [(0,.mp (mpA (AV.int .i64) AV.bool v6)),(1,AaO v0 v1 v2 v3 v4 v5 v7),(2,.cells [AV.map 3]),(3,.mp (mpA (AV.int .i64) (sl (AV.int .i64)) v12)),(4,.cells [AV.map 5]),(5,.mp (mpA (AV.int .i64) AV.bool v42)),(6,Ci (v57++([v61] : List Int))),(7,.cells [Iz v61])] 8 (by decide) (by decide) (by decide) rfl (by simp [F34]) (by simp [F34]) ?_;exact NX (k':=n13) ((v57++([v61] : List Int),v61)) hF (by simp [F34]) (by simp [F34])
      ·replace hF:=Aaa h55 hF;have h55q : v58=v5:=Classical.not_not.1 h55;have h55_:=Abf h55q;have h55__:=Abe h55q;have F35:=A3 F31 h55_ h55__;refine CF (by simp [F35] <;> omega) ?_;refine AW.exit ?_;try simp
       refine hK6956 _ _ _ ?_;refine SW F35 [] [none,none] [2,6,15,19,20] [(4,AV.slc 6 0 1 v57.length false)] [1,2,3,4,5,7] [] 8 ?_;refine WK [(4,AV.slc 6 0 1 v57.length false)] [(0,.mp (mpA (AV.int .i64) AV.bool v6)),(6,Ci v57)] 8 (by simp [F35]) (by simp [F35]) ?_;refine AW.frz 6 (o:=Ci v57) (by simp [F35]) rfl [(4,Lz v57)] [] ⟨(.l (by simp) (by simp) (by simp) (by simp)),trivial⟩ trivial ?_;obtain ⟨h62,hF⟩:=AaR hF;have h62e:=Ap9 h62;simp only [Option.some.injEq] at hF;subst hF;refine AW.ret (hQ _ _ _ ?_ (AaJ ?_)).1
       ·have F36:=A3 F35 h62 h62e;simp [Try.f62,F36]
       ·have F37:=A3 F35 h62 h62e;simp [F37]
abbrev Adh (v0 : Int) (v1 : (List AaA)) (v2 : (List Int)) (v3 : Int) (v4 : Int) (v5 : Int) : Aau := .cells [Iz v0,Q0 v1,Lz v2,Iz v3,Iz v4,Iz v5,AV.map 1,AV.bool false]
theorem AiE (k : Nat) (v0 : Int) (v1 : (List AaA)) (v2 : (List Int)) (v3 : Int) (v4 : Int) (v5 : Int) (v6 : Int) (v7 : (List (List Int))) (hF : Aap k v0 v1 v2 v3 v4 v5 v6=some v7) :
 AbF Try.prog 34 [AV.agg [AV.int .i64 v0,Q0 v1,AV.lst false false (List.map (AV.int .i64) v2)],AV.int .i64 v3,AV.int .i64 v4,AV.int .i64 v5,AV.int .i64 v6] [] (AV.slc 0 0 1 v7.length false) [some (.grow (List.map (sl (AV.int .i64)) v7))]:=by
 unfold Aap at hF;refine EN Try.func34 ?_;intro c0 w0 Q h0 hQ
 refine WK [(0,AV.agg [Iz v0,Q0 v1,Lz v2]),(1,Iz v3),(2,Iz v4),(3,Iz v5),(4,Iz v6)] [] 0 (by simp [-List.drop_one]) (by simp [-List.drop_one]) ?_;refine SQ [] [none,none] fun _ _ g r=>?_;try simp [-List.drop_one]
 and_intros <;> first | exact GK g | apply r | omega | (simp [-List.drop_one,maxLen] <;> omega)
 refine WK [(1,Iz v3),(2,Iz v4),(3,Iz v5),(4,Iz v6),(5,AV.ptr 0 0)] [(0,.cells [Iz v0,Q0 v1,Lz v2])] 1 (by simp [-List.drop_one]) (by simp [-List.drop_one]) ?_;refine AW.seq fun K1194 hK1194=>?_;refine SQ [] [none,none,none,none,none,none] fun _ _ g r=>?_;try simp [-List.drop_one]
 and_intros
 try any_goals first | omega | (simp [-List.drop_one,maxLen] <;> omega)
 obtain ⟨v8,h1,hF⟩:=AaN hF;refine AC (Ada k _ _ _ _ _ _ _ h1) (.cons (.same (by simp)) (.cons (.same (by simp)) (.cons (.same (by simp)) (.cons (.same (by simp)) .nil)))) ?_;try simp [-List.drop_one]
 and_intros <;> first | exact GK g | apply r | omega | (simp [-List.drop_one,maxLen] <;> omega)
 refine WK [(1,Iz v3),(2,Iz v4),(3,Iz v5),(4,Iz v6),(5,AV.ptr 0 0),(21,AV.bool (!v8))] [(0,.cells [Iz v0,Q0 v1,Lz v2])] 1 (by simp [-List.drop_one]) (by simp [-List.drop_one]) ?_;by_cases h2 : (!v8)=true
 ·replace hF:=AaZ h2 hF;have h2_:=h2;try simp at h2_
  refine CT (by simp [-List.drop_one,h2,h2_] <;> omega) ?_;refine SQ [] [none] fun _ _ g r=>?_;try simp [-List.drop_one,h2,h2_]
  and_intros <;> first | exact GK g | apply r | omega | (simp [-List.drop_one,h2,h2_,maxLen] <;> omega)
  refine WK [(10,AV.lst true true (List.map (sl (AV.int .i64)) ([] : List (List Int))))] [] 1 (by simp [-List.drop_one,h2,h2_]) (by simp [-List.drop_one,h2,h2_]) ?_;refine AW.own' 10 1 true (by simp [-List.drop_one,h2,h2_]) (by decide) ?_;refine RM h0 [(0,1)] [(10,AV.slc 0 0 1 (([] : List (List Int)).length) false)] [(0,.grow (List.map (sl (AV.int .i64)) ([] : List (List Int))))] 1 (by simp [-List.drop_one,h2,h2_]) (by simp [-List.drop_one,h2,h2_]) ?_;simp only [Option.some.injEq] at hF;subst hF;refine AW.ret (hQ _ _ _ ?_ (AaJ ?_)).1
  ·simp [Try.f34,h2,h2_]
  ·simp [h2,h2_]
 ·replace hF:=Aaa h2 hF;have h2_:=h2;try simp at h2_
  refine CF (by simp [-List.drop_one,h2,h2_] <;> omega) ?_;refine AW.skip ?_;refine hK1194 _ _ _ ?_;refine SQ [] [none,none,none,none,none,none,none,none] fun _ _ g r=>?_;try simp [-List.drop_one,h2,h2_]
  and_intros <;> first | exact GK g | apply r | omega | (simp [-List.drop_one,h2,h2_,maxLen] <;> omega)
  refine WK [(4,Iz v6),(11,AV.ptr 2 0)] [(1,.mp (mpA (AV.int .i64) AV.bool ([] : (List (Int×Bool))))),(2,Adh v0 v1 v2 v3 v4 v5)] 3 (by simp [-List.drop_one,h2,h2_]) (by simp [-List.drop_one,h2,h2_]) ?_;refine SQ [] [none] fun _ _ g r=>?_;try simp [-List.drop_one,h2,h2_]
  and_intros <;> first | exact GK g | apply r | omega | (simp [-List.drop_one,h2,h2_,maxLen] <;> omega)
  refine WK [(4,Iz v6),(11,AV.ptr 2 0),(12,AV.lst true true (List.map (sl (AV.int .i64)) ([] : List (List Int))))] [(1,.mp (mpA (AV.int .i64) AV.bool ([] : (List (Int×Bool))))),(2,Adh v0 v1 v2 v3 v4 v5)] 3 (by simp [-List.drop_one,h2,h2_]) (by simp [-List.drop_one,h2,h2_]) ?_;refine AW.seq fun K1789 hK1789=>?_;refine SQ [] [none,none,none,none] fun _ _ g r=>?_;try simp [-List.drop_one,h2,h2_]
  and_intros
  try any_goals first | omega | (simp [-List.drop_one,h2,h2_,maxLen] <;> omega)
  obtain ⟨v9,h3,hF⟩:=AaN hF;refine AbA (Ado k _ _ _ _ _ _ _ _ _ _ h3) (by simp) [1] [] [] rfl (.cons (.same (by simp [-List.drop_one,h2,h2_] <;> omega)) (.cons (.same (by simp [-List.drop_one,h2,h2_] <;> omega)) .nil)) (by simp [-List.drop_one,h2,h2_]) (by decide) (by simp) (by simp) (.inl rfl) (by simp) (by simp) ?_;try simp [-List.drop_one,h2,h2_]
  and_intros <;> first | exact GK g | apply r | omega | (simp [-List.drop_one,h2,h2_,maxLen] <;> omega)
  refine WK [(4,Iz v6),(11,AV.ptr 2 0),(12,AV.lst true true (List.map (sl (AV.int .i64)) ([] : List (List Int)))),(13,AV.lst (List.isEmpty v9) (List.isEmpty v9) (List.map (AV.int .i64) v9))] [(1,.mp (mpA (AV.int .i64) AV.bool ([] : (List (Int×Bool))))),(2,Adh v0 v1 v2 v3 v4 v5)] 3 (by simp [-List.drop_one,h2,h2_]) (by simp [-List.drop_one,h2,h2_]) ?_;refine AW.block ?_;refine AW.own' 12 1 true (by simp [-List.drop_one,h2,h2_]) (by decide) ?_;refine RM h0 [(0,2),(1,1),(2,3)] [(4,Iz v6),(11,AV.ptr 0 0),(12,AV.slc 2 0 1 (([] : List (List Int)).length) false),(13,AV.lst (List.isEmpty v9) (List.isEmpty v9) (List.map (AV.int .i64) v9))] [(0,Adh v0 v1 v2 v3 v4 v5),(1,.mp (mpA (AV.int .i64) AV.bool ([] : (List (Int×Bool))))),(2,.grow (List.map (sl (AV.int .i64)) ([] : List (List Int))))] 3 (by simp [-List.drop_one,h2,h2_]) (by simp [-List.drop_one,h2,h2_]) ?_;refine AW.loopF (α:=((List Int)×Bool×(List (Int×Bool))×(List (List Int)))) (fun n (v10,v11,v12,v13)=>Aap.L1 k v0 v1 v2 v3 v4 v5 v6 n v10 v11 v12 v13=some v7) (fun (v10,v11,v12,v13)=>[(4,Iz v6),(11,AV.ptr 0 0),(12,AV.slc 2 0 1 v13.length false),(13,AV.lst (List.isEmpty v10) (List.isEmpty v10) (List.map (AV.int .i64) v10))]) (fun (v10,v11,v12,v13)=>[(0,.cells [Iz v0,Q0 v1,Lz v2,Iz v3,Iz v4,Iz v5,AV.map 1,AV.bool v11]),(1,.mp (mpA (AV.int .i64) AV.bool v12)),(2,.grow (List.map (sl (AV.int .i64)) v13))]) 3 k ((v9,false,([] : (List (Int×Bool))),([] : List (List Int)))) hF (by simp [-List.drop_one,h2,h2_]) (by simp [-List.drop_one,h2,h2_]) (by simp) ?_;rintro (_|n1) ⟨v10,v11,v12,v13⟩ hF K2232 hK2232
  ·try dsimp only at hF
   rw [Aap.L1] at hF; cases hF
  try dsimp only at hF
  rw [Aap.L1] at hF;refine AW.seq fun K2234 hK2234=>?_;refine SQ [] [none,none] fun _ _ g r=>?_;try simp [-List.drop_one,h2,h2_]
  and_intros <;> first | exact GK g | apply r | omega | (simp [-List.drop_one,h2,h2_,maxLen] <;> omega)
  refine WK [(4,Iz v6),(11,AV.ptr 0 0),(12,AV.slc 2 0 1 v13.length false),(13,AV.lst (List.isEmpty v10) (List.isEmpty v10) (List.map (AV.int .i64) v10)),(32,AV.bool (!List.isEmpty v10))] [(0,.cells [Iz v0,Q0 v1,Lz v2,Iz v3,Iz v4,Iz v5,AV.map 1,AV.bool v11]),(1,.mp (mpA (AV.int .i64) AV.bool v12)),(2,.grow (List.map (sl (AV.int .i64)) v13))] 3 (by simp [-List.drop_one,h2,h2_]) (by simp [-List.drop_one,h2,h2_]) ?_;by_cases h4 : (!List.isEmpty v10)=true
  ·replace hF:=AaZ h4 hF;have h4_:=h4;try simp at h4_
   have h4e : List.isEmpty v10=false:=by simpa using h4
   have F1:=A5 h2 h2_ h4 h4_ h4e;refine CT (by simp [-List.drop_one,F1] <;> omega) ?_;refine AW.skip ?_;refine hK2234 _ _ _ ?_;refine AW.midF (α:=((List (Int×Bool))×Bool)) (fun (v14,v15)=>Aap.J2 k v0 v1 v2 v3 v4 v5 v6 v10 v13 (fun v10_ v11_ v12_ v13_=>Aap.L1 k v0 v1 v2 v3 v4 v5 v6 n1 v10_ v11_ v12_ v13_) v14 v15=some v7) (fun (v14,v15)=>[(4,Iz v6),(11,AV.ptr 0 0),(12,AV.slc 2 0 1 ((v13++([v10] : List (List Int))).length) false)]) (fun (v14,v15)=>[(0,.cells [Iz v0,Q0 v1,Lz v2,Iz v3,Iz v4,Iz v5,AV.map 1,AV.bool v15]),(1,.mp (mpA (AV.int .i64) AV.bool v14)),(2,.grow (List.map (sl (AV.int .i64)) (v13++([v10] : List (List Int)))))]) 3 (fun K2308 hK2308=>?_) ?_
   ·refine AW.block ?_;refine SQ [] [none,none,none,none,none] fun _ _ g r=>?_;obtain ⟨h6,hF⟩:=AaR hF;have h6_:=h6;try simp at h6_
    try simp [-List.drop_one,F1,h6]
    and_intros <;> first | exact GK g | apply r | omega | (simp [-List.drop_one,maxLen,F1,h6] <;> omega)
    refine WK [(4,Iz v6),(11,AV.ptr 0 0),(12,AV.slc 3 0 1 ((v13++([v10] : List (List Int))).length) false),(13,Lz v10)] [(0,.cells [Iz v0,Q0 v1,Lz v2,Iz v3,Iz v4,Iz v5,AV.map 1,AV.bool v11]),(1,.mp (mpA (AV.int .i64) AV.bool v12)),(3,.grow (List.map (sl (AV.int .i64)) (v13++([v10] : List (List Int)))))] 4 (by simp [-List.drop_one,F1,h6] <;> omega) (by simp [-List.drop_one,F1,h6]) ?_;refine AW.seq fun K2344 hK2344=>?_;refine SQ [] [none,none,none,none,none,none,none] fun _ _ g r=>?_;obtain ⟨⟨h7,h8⟩,hF⟩:=AaR hF;have h7_:=h7;try simp at h7_
    have h8_:=h8;try simp at h8_
    have F2:=A6 F1 h6 h7 h8 h7_ h8_;try simp [-List.drop_one,F2]
    and_intros <;> first | exact GK g | apply r | omega | (simp [-List.drop_one,maxLen,F2] <;> omega)
    refine WK [(4,Iz v6),(11,AV.ptr 0 0),(12,AV.slc 3 0 1 ((v13++([v10] : List (List Int))).length) false),(13,Lz v10),(44,Lz ((v10.take (IntKind.wrap .i64 ((v10.length : Int)-1)).toNat).drop (1 : Int).toNat)),(45,Iz (((v10.take (IntKind.wrap .i64 ((v10.length : Int)-1)).toNat).drop (1 : Int).toNat).length : Int)),(46,Iz 0)] [(0,.cells [Iz v0,Q0 v1,Lz v2,Iz v3,Iz v4,Iz v5,AV.map 1,AV.bool v11]),(1,.mp (mpA (AV.int .i64) AV.bool v12)),(3,.grow (List.map (sl (AV.int .i64)) (v13++([v10] : List (List Int)))))] 4 (by simp [-List.drop_one,F2] <;> omega) (by simp [-List.drop_one,F2]) ?_;refine AW.block ?_;refine RM h0 [(0,0),(1,1),(2,3)] [(4,Iz v6),(11,AV.ptr 0 0),(12,AV.slc 2 0 1 ((v13++([v10] : List (List Int))).length) false),(13,Lz v10),(44,Lz ((v10.take (IntKind.wrap .i64 ((v10.length : Int)-1)).toNat).drop (1 : Int).toNat)),(45,Iz (((v10.take (IntKind.wrap .i64 ((v10.length : Int)-1)).toNat).drop (1 : Int).toNat).length : Int)),(46,Iz 0)] [(0,.cells [Iz v0,Q0 v1,Lz v2,Iz v3,Iz v4,Iz v5,AV.map 1,AV.bool v11]),(1,.mp (mpA (AV.int .i64) AV.bool v12)),(2,.grow (List.map (sl (AV.int .i64)) (v13++([v10] : List (List Int)))))] 3 (by simp [-List.drop_one,F2]) (by simp [-List.drop_one,F2]) ?_;refine AW.loopF (α:=(Int×(List (Int×Bool)))) (fun n (v17,v18)=>Aap.L3 k v0 v1 v2 v3 v4 v5 v6 v10 v11 v13 (fun v10_ v11_ v12_ v13_=>Aap.L1 k v0 v1 v2 v3 v4 v5 v6 n1 v10_ v11_ v12_ v13_) n v17 v18=some v7) (fun (v17,v18)=>[(4,Iz v6),(11,AV.ptr 0 0),(12,AV.slc 2 0 1 ((v13++([v10] : List (List Int))).length) false),(13,Lz v10),(44,Lz ((v10.take (IntKind.wrap .i64 ((v10.length : Int)-1)).toNat).drop (1 : Int).toNat)),(45,Iz (((v10.take (IntKind.wrap .i64 ((v10.length : Int)-1)).toNat).drop (1 : Int).toNat).length : Int)),(46,Iz v17)]) (fun (v17,v18)=>[(0,.cells [Iz v0,Q0 v1,Lz v2,Iz v3,Iz v4,Iz v5,AV.map 1,AV.bool v11]),(1,.mp (mpA (AV.int .i64) AV.bool v18)),(2,.grow (List.map (sl (AV.int .i64)) (v13++([v10] : List (List Int)))))]) 3 k ((0,v12)) hF (by simp [-List.drop_one,F2]) (by simp [-List.drop_one,F2]) (by simp) ?_;rintro (_|n3) ⟨v17,v18⟩ hF K2370 hK2370
    ·try dsimp only at hF
     rw [Aap.L3] at hF; cases hF
    try dsimp only at hF
    rw [Aap.L3] at hF;refine SQ [] [none] fun _ _ g r=>?_;try simp [-List.drop_one,F2]
    and_intros <;> first | exact GK g | apply r | omega | (simp [-List.drop_one,maxLen,F2] <;> omega)
    refine WK [(4,Iz v6),(11,AV.ptr 0 0),(12,AV.slc 2 0 1 ((v13++([v10] : List (List Int))).length) false),(13,Lz v10),(44,Lz ((v10.take (IntKind.wrap .i64 ((v10.length : Int)-1)).toNat).drop (1 : Int).toNat)),(45,Iz (((v10.take (IntKind.wrap .i64 ((v10.length : Int)-1)).toNat).drop (1 : Int).toNat).length : Int)),(46,Iz v17),(47,AV.bool (decide (v17<(((v10.take (IntKind.wrap .i64 ((v10.length : Int)-1)).toNat).drop (1 : Int).toNat).length : Int))))] [(0,.cells [Iz v0,Q0 v1,Lz v2,Iz v3,Iz v4,Iz v5,AV.map 1,AV.bool v11]),(1,.mp (mpA (AV.int .i64) AV.bool v18)),(2,.grow (List.map (sl (AV.int .i64)) (v13++([v10] : List (List Int)))))] 3 (by simp [-List.drop_one,F2] <;> omega) (by simp [-List.drop_one,F2]) ?_;refine AW.seq fun K2372 hK2372=>?_;by_cases h9 : v17<(((v10.take (IntKind.wrap .i64 ((v10.length : Int)-1)).toNat).drop (1 : Int).toNat).length : Int)
    ·replace hF:=AaZ h9 hF;have h9_:=h9;try simp at h9_
     have F3:=A3 F2 h9 h9_;refine CT (by simp [-List.drop_one,F3] <;> omega) ?_;refine AW.skip ?_;refine hK2372 _ _ _ ?_;refine AW.seq fun K2375 hK2375=>?_;refine AW.block ?_;refine SQ [] [none,none,none] fun _ _ g r=>?_;obtain ⟨v19,h10,h11,h12,hF⟩:=Aad hF;have h12_:=Aas h12;try simp at h12_
     have h11_:=h11;try simp at h11_
     have h12q:=Aic ((AV.int .i64)) h12;rw [List.map_drop,List.map_take,List.getElem?_drop] at h12q;simp only [Int.reduceToNat] at h12q;have F4:=A7 F3 h10 h11 h12 h12_ h11_ h12q;try simp [-List.drop_one,F4]
     and_intros <;> first | exact GK g | apply r | omega | (simp [-List.drop_one,maxLen,F4] <;> omega)
     refine WK [(4,Iz v6),(11,AV.ptr 0 0),(12,AV.slc 2 0 1 ((v13++([v10] : List (List Int))).length) false),(13,Lz v10),(15,Iz v19),(44,Lz ((v10.take (IntKind.wrap .i64 ((v10.length : Int)-1)).toNat).drop (1 : Int).toNat)),(45,Iz (((v10.take (IntKind.wrap .i64 ((v10.length : Int)-1)).toNat).drop (1 : Int).toNat).length : Int)),(46,Iz v17)] [(0,.cells [Iz v0,Q0 v1,Lz v2,Iz v3,Iz v4,Iz v5,AV.map 1,AV.bool v11]),(1,.mp (mpA (AV.int .i64) AV.bool v18)),(2,.grow (List.map (sl (AV.int .i64)) (v13++([v10] : List (List Int)))))] 3 (by simp [-List.drop_one,F4] <;> omega) (by simp [-List.drop_one,F4]) ?_;refine RG [] [none,none,none,none] fun _ _ g r=>?_;try simp [-List.drop_one,F4]
     and_intros <;> first | exact GK g | apply r | omega | (simp [-List.drop_one,maxLen,F4] <;> omega)
     refine hK2375 _ _ _ ?_;refine WK [(4,Iz v6),(11,AV.ptr 0 0),(12,AV.slc 2 0 1 ((v13++([v10] : List (List Int))).length) false),(13,Lz v10),(44,Lz ((v10.take (IntKind.wrap .i64 ((v10.length : Int)-1)).toNat).drop (1 : Int).toNat)),(45,Iz (((v10.take (IntKind.wrap .i64 ((v10.length : Int)-1)).toNat).drop (1 : Int).toNat).length : Int)),(46,Iz v17)] [(0,.cells [Iz v0,Q0 v1,Lz v2,Iz v3,Iz v4,Iz v5,AV.map 1,AV.bool v11]),(1,.mp (mpA (AV.int .i64) AV.bool (AbE v18 v19 true))),(2,.grow (List.map (sl (AV.int .i64)) (v13++([v10] : List (List Int)))))] 3 (by simp [-List.drop_one,F4] <;> omega) (by simp [-List.drop_one,F4]) ?_;refine RG [] [none,none] fun _ _ g r=>?_;try simp [-List.drop_one,F4]
     and_intros <;> first | exact GK g | apply r | omega | (simp [-List.drop_one,maxLen,F4] <;> omega)
     refine hK2370 _ _ _ ?_;exact NX (k':=n3) ((IntKind.wrap .i64 (v17+1),AbE v18 v19 true)) hF (by simp [-List.drop_one,F4] <;> omega) (by simp [-List.drop_one,F4])
    ·replace hF:=Aaa h9 hF;have h9_:=h9;try simp at h9_
     have F5:=A3 F2 h9 h9_;refine CF (by simp [-List.drop_one,F5] <;> omega) ?_;refine AW.exit ?_;try simp
     refine hK2344 _ _ _ ?_;refine RG [] [none,none,none,some (56,false),some (56,false),some (56,false),none,none,none] fun _ _ g r=>?_;by_cases h13 : v11=true
     ·replace hF:=AaZ h13 hF;have h13_:=h13;try simp at h13_
      have F6:=A3 F5 h13 h13_;try simp [-List.drop_one,F6]
      and_intros <;> first | exact GK g | apply r | omega | (simp [-List.drop_one,maxLen,F6] <;> omega)
      refine hK2308 _ _ _ ?_;exact JN ((v18,true)) hF (by simp [-List.drop_one,F6] <;> omega) (by simp [-List.drop_one,F6])
     ·replace hF:=Aaa h13 hF;have h13_:=h13;try simp at h13_
      have F7:=A3 F5 h13 h13_;try simp [-List.drop_one,F7]
      and_intros <;> first | exact GK g | apply r | omega | (simp [-List.drop_one,maxLen,F7] <;> omega)
      refine hK2308 _ _ _ ?_;exact JN ((v18,((v10.length : Int)==2))) hF (by simp [-List.drop_one,F7] <;> omega) (by simp [-List.drop_one,F7])
   ·rintro ⟨v14,v15⟩ hF
    try dsimp only at hF
    unfold Aap.J2 at hF;refine RG [] [none,none,none,none] fun _ _ g r=>?_;try simp [-List.drop_one,F1]
    and_intros
    try any_goals first | omega | (simp [-List.drop_one,maxLen,F1] <;> omega)
    obtain ⟨v16,h5,hF⟩:=AaN hF;refine AbA (Ado k _ _ _ _ _ _ _ _ _ _ h5) (by simp) [1] [] [] rfl (.cons (.same (by simp [-List.drop_one,F1] <;> omega)) (.cons (.same (by simp [-List.drop_one,F1] <;> omega)) .nil)) (by simp [-List.drop_one,F1]) (by decide) (by simp) (by simp) (.inl rfl) (by simp) (by simp) ?_;try simp [-List.drop_one,F1]
    and_intros <;> first | exact GK g | apply r | omega | (simp [-List.drop_one,maxLen,F1] <;> omega)
    refine hK2232 _ _ _ ?_;exact NX (k':=n1) ((v16,v15,v14,v13++([v10] : List (List Int)))) hF (by simp [-List.drop_one,F1] <;> omega) (by simp [-List.drop_one,F1])
  ·replace hF:=Aaa h4 hF;have h4_:=h4;try simp at h4_
   have F8:=A4 h2 h2_ h4 h4_;refine CF (by simp [-List.drop_one,F8] <;> omega) ?_;refine AW.exit ?_;try simp
   refine hK1789 _ _ _ ?_;refine SQ [] [none,none] fun _ _ g r=>?_;try simp [-List.drop_one,F8]
   and_intros <;> first | exact GK g | apply r | omega | (simp [-List.drop_one,maxLen,F8] <;> omega)
   refine RM h0 [(0,2)] [(10,AV.slc 0 0 1 v13.length false)] [(0,.grow (List.map (sl (AV.int .i64)) v13))] 1 (by simp [-List.drop_one,F8]) (by simp [-List.drop_one,F8]) ?_;simp only [Option.some.injEq] at hF;subst hF;refine AW.ret (hQ _ _ _ ?_ (AaJ ?_)).1
   ·simp [Try.f34,F8]
   ·simp [F8]
end Go.TF
