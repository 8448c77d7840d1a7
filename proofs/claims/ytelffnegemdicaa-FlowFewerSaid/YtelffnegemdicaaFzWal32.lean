import Derived.Test.YtelffnegemdicaaFzWal28
import Derived.Test.YtelffnegemdicaaFzWal29
import Derived.Test.YtelffnegemdicaaFzWal31
set_option linter.unusedVariables false
set_option linter.unusedSimpArgs false
set_option maxRecDepth 100000
set_option maxHeartbeats 4000000
namespace Go.TF
open Go Go.Abs Go.Proofs Go.Proofs.YtelffnegemdicaaFwT
theorem Ae9 (k : Nat) (v0 : (List Int)) (v1 : Int) (v2 : (List Int)) (v3 : Int) (v4 : Int) (hF : Acg k v0 v1 v2=some (v3,v4)) :
 Aa9 Try.prog 26 [AV.ptr 0 0,AV.lst false false (List.map (AV.int .i64) v2)] [.cells [AV.lst false false (List.map (AV.int .i64) v0),AV.int .i64 v1]] (AV.int .i64 v3) [some (.cells [AV.lst false false (List.map (AV.int .i64) v0),AV.int .i64 v4])]:=by
 unfold Acg at hF;refine EN Try.func26 ?_;intro c0 w0 Q h0 hQ
 refine WK [(0,AV.ptr 0 0),(1,Lz v2)] [(0,.cells [Lz v0,Iz v1])] 1 (by simp) (by simp) ?_;refine SQ [] [none] fun _ _ g r=>?_;try simp
 and_intros <;> first | exact GK g | apply r | omega | (simp [maxLen] <;> omega)
 refine WK [(0,AV.ptr 0 0),(1,Lz v2)] [(0,.cells [Lz v0,Iz v1])] 1 (by simp) (by simp) ?_;refine SQ [] [none,none,none,none,none,none,none,none] fun _ _ g r=>?_;try simp
 and_intros
 try any_goals first | omega | (simp [maxLen] <;> omega)
 obtain ⟨v5,v6,h1,hF⟩:=Aa8 hF;refine Aa1 (Aa4 k _ _ _ _ _ h1) (by simp) [0] [] [0] rfl (.cons (.same (by simp)) (.cons (.same (by simp)) .nil)) (by simp) (by decide) (by simp) (by simp) (.inl rfl) (by simp) (by simp) ?_;obtain ⟨v7,h2,h3,h4,hF⟩:=Aaa hF;have h4_:=Aao h4;try simp at h4_
 have h3_:=h3;try simp at h3_
 have F1:=A5 h2 h3 h4 h4_ h3_;try simp [F1]
 and_intros <;> first | exact GK g | apply r | omega | (simp [maxLen,F1] <;> omega)
 refine WK [(4,Iz v7)] [(0,.cells [Lz v0,Iz v6])] 1 (by simp [F1]) (by simp [F1]) ?_;simp only [Option.some.injEq,Prod.mk.injEq] at hF;obtain ⟨e0,e1⟩:=hF;subst e0 e1;refine AW.ret (hQ _ _ _ ?_ (AaF ?_)).1
 ·simp [Try.f26,F1]
 ·simp [F1]
theorem AgY (k : Nat) (v0 : (List Int)) (v1 : Int) (v2 : (List Int)) (hF : AbE k v0 v1=some v2) :
 Aa9 Try.prog 22 [AV.lst false false (List.map (AV.int .i64) v0),AV.int .i64 v1] [] (AV.slc 0 0 1 v2.length false) [some (Gi v2)]:=by
 unfold AbE at hF;refine EN Try.func22 ?_;intro c0 w0 Q h0 hQ
 refine WK [(0,Lz v0),(1,Iz v1)] [] 0 (by simp) (by simp) ?_;refine SQ [] [none] fun _ _ g r=>?_;try simp
 and_intros <;> first | exact GK g | apply r | omega | (simp [maxLen] <;> omega)
 refine WK [(0,Lz v0),(1,Iz v1)] [] 0 (by simp) (by simp) ?_;refine SQ [] [none] fun _ _ g r=>?_;try simp
 and_intros <;> first | exact GK g | apply r | omega | (simp [maxLen] <;> omega)
 refine WK [(0,Lz v0),(1,Iz v1),(5,Iz 0)] [] 0 (by simp) (by simp) ?_;refine AW.midF (α:=Int) (fun v3=>AbE.J1 k v0 v1 v3=some v2) (fun v3=>[(0,Lz v0),(1,Iz v1),(5,Iz v3)]) (fun v3=>[]) 0 (fun K69 hK69=>?_) ?_
 ·refine AW.block ?_;refine AW.loopF (α:=Int) (fun n v5=>AbE.L3 k v0 v1 n v5=some v2) (fun v5=>[(0,Lz v0),(1,Iz v1),(5,Iz v5)]) (fun v5=>[]) 0 k (0) hF (by simp) (by simp) (by simp) ?_;rintro (_|n3) v5 hF K82 hK82
  ·try dsimp only at hF
   rw [AbE.L3] at hF; cases hF
  try dsimp only at hF
  rw [AbE.L3] at hF;refine AW.seq fun K84 hK84=>?_;refine SQ [] [none,none,none,none,none,some (10,true),some (10,true),some (10,true),some (10,true),some (10,true),some (10,true),none] fun _ _ g r=>?_;by_cases h14 : v5<(v0.length : Int)
  ·replace hF:=AaX h14 hF;have h14_:=h14;try simp at h14_
   obtain ⟨v6,h15,h16,h17,hF⟩:=Aaa hF;have h17_:=Aao h17;try simp at h17_
   have h16_:=h16;try simp at h16_
   have F1:=A7 h14 h14_ h15 h16 h17 h17_ h16_;try simp [F1]
   and_intros <;> first | exact GK g | apply r | omega | (simp [maxLen,F1] <;> omega)
   refine WK [(0,Lz v0),(1,Iz v1),(5,Iz v5),(17,AV.bool (decide (v6<v1)))] [] 0 (by simp [F1]) (by simp [F1]) ?_;by_cases h18 : v6<v1
   ·replace hF:=AaX h18 hF;have h18_:=h18;try simp at h18_
    have F2:=A3 F1 h18 h18_;refine CT (by simp [F2] <;> omega) ?_;refine AW.skip ?_;refine hK84 _ _ _ ?_;refine AW.block ?_;refine RG [] [none,none,none] fun _ _ g r=>?_;try simp [F2]
    and_intros <;> first | exact GK g | apply r | omega | (simp [maxLen,F2] <;> omega)
    refine hK82 _ _ _ ?_;exact NX (k':=n3) (IntKind.wrap .i64 (v5+1)) hF (by simp [F2]) (by simp [F2])
   ·replace hF:=AaY h18 hF;have h18_:=h18;try simp at h18_
    have F3:=A3 F1 h18 h18_;refine CF (by simp [F3] <;> omega) ?_;refine AW.exit ?_;try simp
    refine hK69 _ _ _ ?_;exact JN (v5) hF (by simp [F3]) (by simp [F3])
  ·replace hF:=AaY h14 hF;have h14_:=h14;try simp at h14_
   try simp [h14,h14_]
   and_intros <;> first | exact GK g | apply r | omega | (simp [h14,h14_,maxLen] <;> omega)
   refine WK [(0,Lz v0),(1,Iz v1),(5,Iz v5),(17,AV.bool false)] [] 0 (by simp [h14,h14_]) (by simp [h14,h14_]) ?_;refine CF (by simp [h14,h14_]) ?_;refine AW.exit ?_;try simp
   refine hK69 _ _ _ ?_;exact JN (v5) hF (by simp [h14,h14_]) (by simp [h14,h14_])
 ·rintro v3 hF
  try dsimp only at hF
  unfold AbE.J1 at hF;refine AW.midF (α:=Unit) (fun _=>AbE.J2 k v0 v1 v3=some v2) (fun _=>[(0,Lz v0),(1,Iz v1),(5,Iz v3)]) (fun _=>[]) 0 (fun K66 hK66=>?_) ?_
  ·refine SQ [] [none,none,none,none,none,some (24,true),some (24,true),some (24,true),some (24,true),some (24,true),some (24,true),none] fun _ _ g r=>?_;by_cases h8 : v3<(v0.length : Int)
   ·replace hF:=AaX h8 hF;have h8_:=h8;try simp at h8_
    obtain ⟨v4,h9,h10,h11,hF⟩:=Aaa hF;have h11_:=Aao h11;try simp at h11_
    have h10_:=h10;try simp at h10_
    have F4:=A7 h8 h8_ h9 h10 h11 h11_ h10_;try simp [F4]
    and_intros <;> first | exact GK g | apply r | omega | (simp [maxLen,F4] <;> omega)
    refine WK [(0,Lz v0),(1,Iz v1),(5,Iz v3),(31,AV.bool (v4==v1))] [] 0 (by simp [F4]) (by simp [F4]) ?_;by_cases h12 : v4=v1
    ·replace hF:=AaX h12 hF;have h12q : v4=v1:=h12;have h12_:=Abx h12q;have h12__:=Abw h12q;refine CT (by simp [F4,h12_,h12__] <;> omega) ?_;refine SQ [33] [none,none,none] fun _ _ g r=>?_;obtain ⟨h13,hF⟩:=AaZ hF;have h13_:=h13;try simp at h13_
     have F5:=A4 F4 h12_ h12__ h13;try simp [F5]
     and_intros <;> first | exact GK g | apply r | omega | (simp [maxLen,F5] <;> omega)
     refine WK [(4,AV.slc 0 0 1 v0.length false)] [(0,Gi v0)] 1 (by simp [F5]) (by simp [F5]) ?_;simp only [Option.some.injEq] at hF;subst hF;refine AW.ret (hQ _ _ _ ?_ (AaF ?_)).1
     ·simp [Try.f22,F5]
     ·simp [F5]
    ·replace hF:=AaY h12 hF;have h12_:=Abo h12;have h12__:=Abt h12;have F6:=A4 F4 h12 h12_ h12__;refine CF (by simp [F6] <;> omega) ?_;refine AW.skip ?_;refine hK66 _ _ _ ?_;exact JN (()) hF (by simp [F6]) (by simp [F6])
   ·replace hF:=AaY h8 hF;have h8_:=h8;try simp at h8_
    try simp [h8,h8_]
    and_intros <;> first | exact GK g | apply r | omega | (simp [h8,h8_,maxLen] <;> omega)
    refine WK [(0,Lz v0),(1,Iz v1),(5,Iz v3),(31,AV.bool false)] [] 0 (by simp [h8,h8_]) (by simp [h8,h8_]) ?_;refine CF (by simp [h8,h8_]) ?_;refine AW.skip ?_;refine hK66 _ _ _ ?_;exact JN (()) hF (by simp [h8,h8_]) (by simp [h8,h8_])
  ·rintro ⟨⟩ hF
   try dsimp only at hF
   unfold AbE.J2 at hF;refine SQ [37] [none,none,none,none,none,none,none,none,none,none,none,none] fun _ _ g r=>?_;obtain ⟨⟨h1,h2⟩,hF⟩:=AaZ hF;have h1_:=h1;try simp at h1_
   have h2_:=h2;try simp at h2_
   obtain ⟨h3,hF⟩:=AaZ hF;have h3_:=h3;try simp at h3_
   obtain ⟨h4,hF⟩:=AaZ hF;have h4_:=h4;try simp at h4_
   obtain ⟨⟨h5,h6⟩,hF⟩:=AaZ hF;have h5_:=h5;try simp at h5_
   have h6_:=h6;try simp at h6_
   obtain ⟨h7,hF⟩:=AaZ hF;have h7_:=h7;try simp at h7_
   have F7:=A9 h1 h2 h1_ h2_ h3 h4 h5 h6 (A3 h5_ h6_ h7);try simp [F7]
   and_intros <;> first | exact GK g | apply r | omega | (simp [maxLen,F7] <;> omega)
   refine RM h0 [(0,2)] [(4,AV.slc 0 0 1 ((((v0.take (v3).toNat)++([v1] : List Int))++(v0.drop (v3).toNat)).length) false)] [(0,Gi (((v0.take (v3).toNat)++([v1] : List Int))++(v0.drop (v3).toNat)))] 1 (by simp [F7] <;> omega) (by simp [F7]) ?_;simp only [Option.some.injEq] at hF;subst hF;refine AW.ret (hQ _ _ _ ?_ (AaF ?_)).1
   ·simp [Try.f22,F7]
   ·simp [F7]
abbrev AbM  : Aas := .cells [AV.lst true true (List.map (AV.int .i64) ([] : List Int)),AV.lst true true (List.map (AV.int .i64) ([] : List Int)),Iz 0]
abbrev AbY  : Aas := .cells [AV.lst true true (List.map (AV.int .i64) ([] : List Int)),AV.slc 2 0 1 (([] : List Int).length) false,Iz 0]
theorem AfX (k : Nat) (v0 : (List Int)) (v1 : Int) (v2 : Int) (v3 : (List AaA)) (v4 : (List Int)) (v5 : (List Int)) (v6 : (List Int)) (v7 : Int) (v8 : Int) (hF : Aai k v0 v1 v2 v3 v4=some (v5,v6,v7,v8)) :
 Aa9 Try.prog 13 [AV.ptr 0 0,AV.agg [AV.int .i64 v2,Q2 v3,AV.lst false false (List.map (AV.int .i64) v4)]] [.cells [AV.lst false false (List.map (AV.int .i64) v0),AV.int .i64 v1]] (AV.agg [AV.lst false false (List.map (AV.int .i64) v5),AV.slc 1 0 1 v6.length false,AV.int .i64 v7]) [some (.cells [AV.lst false false (List.map (AV.int .i64) v0),AV.int .i64 v8]),some (Gi v6)]:=by
 unfold Aai at hF;refine EN Try.func13 ?_;intro c0 w0 Q h0 hQ
 refine WK [(0,AV.ptr 0 0),(1,AV.agg [Iz v2,Q2 v3,Lz v4])] [(0,.cells [Lz v0,Iz v1])] 1 (by simp) (by simp) ?_;refine SQ [] [none,none] fun _ _ g r=>?_;try simp
 and_intros <;> first | exact GK g | apply r | omega | (simp [maxLen] <;> omega)
 refine WK [(0,AV.ptr 0 0),(3,AV.ptr 1 0),(4,AV.ptr 2 0)] [(0,.cells [Lz v0,Iz v1]),(1,.cells [Iz v2,Q2 v3,Lz v4]),(2,AbM )] 3 (by simp) (by simp) ?_;refine SQ [] [none,none,none,none,none,none,none,none,none,none,none] fun _ _ g r=>?_;try simp
 and_intros
 try any_goals first | omega | (simp [maxLen] <;> omega)
 obtain ⟨v9,v10,h1,hF⟩:=Aa8 hF;refine Aa1 (Aa4 k _ _ _ _ _ h1) (by simp) [0] [] [0] rfl (.cons (.same (by simp)) (.cons (.same (by simp)) .nil)) (by simp) (by decide) (by simp) (by simp) (.inl rfl) (by simp) (by simp) ?_;try simp
 and_intros
 try any_goals first | omega | (simp [maxLen] <;> omega)
 obtain ⟨v11,v12,h2,hF⟩:=Aa8 hF;refine Aa1 (Ae9 k _ _ _ _ _ h2) (by simp) [0] [] [0] rfl (.cons (.same (by simp)) (.cons (Coe.fl (by simp)) .nil)) (by simp) (by decide) (by simp) (by simp) (.inl rfl) (by simp) (by simp) ?_;try simp
 and_intros <;> first | exact GK g | apply r | omega | (simp [maxLen] <;> omega)
 refine WK [(0,AV.ptr 0 0),(3,AV.ptr 1 0),(4,AV.ptr 2 0),(5,AV.ptr 3 0)] [(0,.cells [Lz v0,Iz v12]),(1,.cells [Iz v2,Q2 v3,Lz v4]),(2,AbM ),(3,.cells [AV.lst false true (List.map (AV.int .i64) ([v9] : List Int)),AV.lst true true (List.map (AV.int .i64) ([] : List Int)),Iz v11])] 4 (by simp) (by simp) ?_;refine AW.midF (α:=(Int×(List Int))) (fun (v13,v14)=>Aai.J1 k v0 v11 v13 v14=some (v5,v6,v7,v8)) (fun (v13,v14)=>[(0,AV.ptr 0 0),(4,AV.ptr 1 0),(5,AV.ptr 2 0)]) (fun (v13,v14)=>[(0,.cells [Lz v0,Iz v13]),(1,AbM ),(2,.cells [Lz v14,AV.lst true true (List.map (AV.int .i64) ([] : List Int)),Iz v11])]) 3 (fun K170 hK170=>?_) ?_
 ·refine SQ [] [none,none] fun _ _ g r=>?_;try simp
  and_intros
  try any_goals first | omega | (simp [maxLen] <;> omega)
  obtain ⟨v26,v27,h9,hF⟩:=Aa8 hF;refine Aa1 (AeS k _ _ _ _ _ h9) (by simp) [0] [] [0] rfl (.cons (.same (by simp)) (.cons (.same (by simp)) .nil)) (by simp) (by decide) (by simp) (by simp) (.inl rfl) (by simp) (by simp) ?_;try simp
  and_intros <;> first | exact GK g | apply r | omega | (simp [maxLen] <;> omega)
  refine WK [(0,AV.ptr 0 0),(3,AV.ptr 1 0),(4,AV.ptr 2 0),(5,AV.ptr 3 0),(18,AV.bool v26)] [(0,.cells [Lz v0,Iz v27]),(1,.cells [Iz v2,Q2 v3,Lz v4]),(2,AbM ),(3,.cells [AV.lst false true (List.map (AV.int .i64) ([v9] : List Int)),AV.lst true true (List.map (AV.int .i64) ([] : List Int)),Iz v11])] 4 (by simp) (by simp) ?_;by_cases h10 : v26=true
  ·replace hF:=AaX h10 hF;have h10_:=h10;try simp at h10_
   refine CT (by simp [h10,h10_] <;> omega) ?_;refine RG [] [none,none,none,none,none,none,none,none,none] fun _ _ g r=>?_;try simp [h10,h10_]
   and_intros
   try any_goals first | omega | (simp [h10,h10_,maxLen] <;> omega)
   obtain ⟨v28,v29,h11,hF⟩:=Aa8 hF;refine Aa1 (Aa4 k _ _ _ _ _ h11) (by simp) [0] [] [0] rfl (.cons (.same (by simp [h10,h10_])) (.cons (.same (by simp [h10,h10_])) .nil)) (by simp [h10,h10_]) (by decide) (by simp) (by simp) (.inl rfl) (by simp) (by simp) ?_;try simp [h10,h10_]
   and_intros
   try any_goals first | omega | (simp [h10,h10_,maxLen] <;> omega)
   obtain ⟨v30,h12,hF⟩:=AaO hF;refine AC (AgY k _ _ _ h12) (.cons (Coe.fl (by simp [h10,h10_])) (.cons (.same (by simp [h10,h10_])) .nil)) ?_;try simp [h10,h10_]
   and_intros <;> first | exact GK g | apply r | omega | (simp [h10,h10_,maxLen] <;> omega)
   refine hK170 _ _ _ ?_;refine Can.weak [(0,AV.ptr 0 0),(4,AV.ptr 2 0),(5,AV.ptr 3 0)] [(0,.cells [Lz v0,Iz v29]),(2,AbM ),(3,.cells [AV.slc 4 0 1 v30.length false,AV.lst true true (List.map (AV.int .i64) ([] : List Int)),Iz v11]),(4,Gi v30)] 5 (by simp [h10,h10_]) (by simp [h10,h10_]) (by simp) ?_;refine Can.freeze 4 (o:=Gi v30) (by simp [h10,h10_]) rfl [] [(3,.cells [Lz v30,AV.lst true true (List.map (AV.int .i64) ([] : List Int)),Iz v11])] trivial ⟨⟨by simp,Aas.cells [AV.slc 4 0 1 v30.length false,AV.lst true true (List.map (AV.int .i64) ([] : List Int)),Iz v11],by simp [h10,h10_],(.mk (.cons (.l (by simp) (by simp) (by simp) (by simp)) (.cons (.same _) (.cons (.same _) .nil))))⟩,trivial⟩ ?_;refine Can.ren (m:=1) h0 [(0,0),(1,2),(2,3)] [(0,AV.ptr 0 0),(4,AV.ptr 1 0),(5,AV.ptr 2 0)] [(0,.cells [Lz v0,Iz v29]),(1,AbM ),(2,.cells [Lz v30,AV.lst true true (List.map (AV.int .i64) ([] : List Int)),Iz v11])] 3 (by decide) (by decide) (by decide) rfl (by simp [h10,h10_]) (by simp [h10,h10_]) ?_;exact JN ((v29,v30)) hF (by simp [h10,h10_]) (by simp [h10,h10_])
  ·replace hF:=AaY h10 hF;have h10_:=h10;try simp at h10_
   refine CF (by simp [h10,h10_] <;> omega) ?_;refine AW.skip ?_;refine hK170 _ _ _ ?_;refine Can.ren (m:=1) h0 [(0,0),(1,2),(2,3)] [(0,AV.ptr 0 0),(4,AV.ptr 1 0),(5,AV.ptr 2 0)] [(0,.cells [Lz v0,Iz v27]),(1,AbM ),(2,.cells [AV.lst false true (List.map (AV.int .i64) ([v9] : List Int)),AV.lst true true (List.map (AV.int .i64) ([] : List Int)),Iz v11])] 3 (by decide) (by decide) (by decide) rfl (by simp [h10,h10_]) (by simp [h10,h10_]) ?_;refine Can.flg [] [(2,.cells [Lz ([v9] : List Int),AV.lst true true (List.map (AV.int .i64) ([] : List Int)),Iz v11])] trivial ⟨⟨Aas.cells [AV.lst false true (List.map (AV.int .i64) ([v9] : List Int)),AV.lst true true (List.map (AV.int .i64) ([] : List Int)),Iz v11],by simp [h10,h10_],(.mk (.cons (.lst (by simp)) (.cons (.same _) (.cons (.same _) .nil))))⟩,trivial⟩ (by simp) ?_;exact JN ((v27,([v9] : List Int))) hF (by simp [h10,h10_]) (by simp [h10,h10_])
 ·rintro ⟨v13,v14⟩ hF
  try dsimp only at hF
  unfold Aai.J1 at hF;refine SQ [] [none,none,none,none,none] fun _ _ g r=>?_;try simp
  and_intros
  try any_goals first | omega | (simp [maxLen] <;> omega)
  obtain ⟨v15,v16,h3,hF⟩:=Aa8 hF;refine Aa1 (Ae9 k _ _ _ _ _ h3) (by simp) [0] [] [0] rfl (.cons (.same (by simp)) (.cons (Coe.fl (by simp)) .nil)) (by simp) (by decide) (by simp) (by simp) (.inl rfl) (by simp) (by simp) ?_;try simp
  and_intros <;> first | exact GK g | apply r | omega | (simp [maxLen] <;> omega)
  refine WK [(0,AV.ptr 0 0),(4,AV.ptr 1 0),(5,AV.ptr 2 0),(6,Iz (IntKind.wrap .i64 (1+v15)))] [(0,.cells [Lz v0,Iz v16]),(1,AbM ),(2,.cells [Lz v14,AV.lst true true (List.map (AV.int .i64) ([] : List Int)),Iz v11])] 3 (by simp) (by simp) ?_;refine AW.seq fun K130 hK130=>?_;refine SQ [] [none,none,none,none] fun _ _ g r=>?_;try simp
  and_intros
  try any_goals first | omega | (simp [maxLen] <;> omega)
  obtain ⟨v17,v18,h4,hF⟩:=Aa8 hF;refine Aa1 (Aa4 k _ _ _ _ _ h4) (by simp) [0] [] [0] rfl (.cons (.same (by simp)) (.cons (.same (by simp)) .nil)) (by simp) (by decide) (by simp) (by simp) (.inl rfl) (by simp) (by simp) ?_;try simp
  and_intros <;> first | exact GK g | apply r | omega | (simp [maxLen] <;> omega)
  refine WK [(0,AV.ptr 0 0),(4,AV.ptr 1 0),(5,AV.ptr 2 0),(6,Iz (IntKind.wrap .i64 (1+v15))),(7,Iz (IntKind.wrap .i64 (1+v17)))] [(0,.cells [Lz v0,Iz v18]),(1,AbM ),(2,.cells [Lz v14,AV.lst true true (List.map (AV.int .i64) ([] : List Int)),Iz v11])] 3 (by simp) (by simp) ?_;refine AW.block ?_;refine AW.ownC 1 1 1 true (cs:=[AV.lst true true (List.map (AV.int .i64) ([] : List Int)),AV.lst true true (List.map (AV.int .i64) ([] : List Int)),Iz 0]) (by simp) (by simp) ?_;refine AW.ownC 2 1 1 true (cs:=[Lz v14,AV.lst true true (List.map (AV.int .i64) ([] : List Int)),Iz v11]) (by simp) (by simp) ?_;refine AW.rnm (m:=1) h0 [(0,0),(1,1),(2,3),(3,2),(4,4)] [(0,AV.ptr 0 0),(4,AV.ptr 1 0),(5,AV.ptr 3 0),(6,Iz (IntKind.wrap .i64 (1+v15))),(7,Iz (IntKind.wrap .i64 (1+v17)))] [(0,.cells [Lz v0,Iz v18]),(1,AbY ),(2,Gi ([] : List Int)),(3,.cells [Lz v14,AV.slc 4 0 1 (([] : List Int).length) false,Iz v11]),(4,Gi ([] : List Int))] 5 (by decide) (by decide) (by decide) rfl (by simp) (by simp) ?_;refine AW.loopF (α:=(Int×Int×Int×(List Int))) (fun n (v19,v20,v21,v22)=>Aai.L2 k v0 v11 v14 n v19 v20 v21 v22=some (v5,v6,v7,v8)) (fun (v19,v20,v21,v22)=>[(0,AV.ptr 0 0),(4,AV.ptr 1 0),(5,AV.ptr 3 0),(6,Iz v19),(7,Iz v20)]) (fun (v19,v20,v21,v22)=>[(0,.cells [Lz v0,Iz v21]),(1,AbY ),(2,Gi ([] : List Int)),(3,.cells [Lz v14,AV.slc 4 0 1 v22.length false,Iz v11]),(4,Gi v22)]) 5 k ((IntKind.wrap .i64 (1+v15),IntKind.wrap .i64 (1+v17),v18,([] : List Int))) hF (by simp) (by simp) (by simp) ?_;rintro (_|n2) ⟨v19,v20,v21,v22⟩ hF K159 hK159
  ·try dsimp only at hF
   rw [Aai.L2] at hF; cases hF
  try dsimp only at hF
  rw [Aai.L2] at hF;refine AW.seq fun K161 hK161=>?_;refine SQ [] [none,none] fun _ _ g r=>?_;try simp
  and_intros <;> first | exact GK g | apply r | omega | (simp [maxLen] <;> omega)
  refine WK [(0,AV.ptr 0 0),(4,AV.ptr 1 0),(5,AV.ptr 3 0),(6,Iz v19),(7,Iz v20),(35,AV.bool (decide (0<v20)))] [(0,.cells [Lz v0,Iz v21]),(1,AbY ),(2,Gi ([] : List Int)),(3,.cells [Lz v14,AV.slc 4 0 1 v22.length false,Iz v11]),(4,Gi v22)] 5 (by simp) (by simp) ?_;by_cases h5 : 0<v20
  ·replace hF:=AaX h5 hF;have h5_:=h5;try simp at h5_
   refine CT (by simp [h5,h5_] <;> omega) ?_;refine AW.skip ?_;refine hK161 _ _ _ ?_;refine AW.seq fun K165 hK165=>?_;refine AW.block ?_;refine SQ [] [none,none,none,none,none,none,none] fun _ _ g r=>?_;obtain ⟨h6,hF⟩:=AaZ hF;have h6_:=h6;try simp at h6_
   have F1:=A3 h5 h5_ h6;try simp [F1]
   and_intros <;> first | exact GK g | apply r | omega | (simp [maxLen,F1] <;> omega)
   refine WK [(0,AV.ptr 0 0),(4,AV.ptr 1 0),(5,AV.ptr 3 0),(6,Iz v19),(7,Iz v20)] [(0,.cells [Lz v0,Iz v21]),(1,AbY ),(2,Gi ([] : List Int)),(3,.cells [Lz v14,AV.slc 5 0 1 ((v22++([v19] : List Int)).length) false,Iz v11]),(5,Gi (v22++([v19] : List Int)))] 6 (by simp [F1]) (by simp [F1] <;> omega) ?_;refine RG [] [none,none,none,none,none,none] fun _ _ g r=>?_;try simp [F1]
   and_intros
   try any_goals first | omega | (simp [maxLen,F1] <;> omega)
   obtain ⟨v23,v24,h7,hF⟩:=Aa8 hF;refine Aa1 (Aa4 k _ _ _ _ _ h7) (by simp) [0] [] [0] rfl (.cons (.same (by simp [F1])) (.cons (.same (by simp [F1])) .nil)) (by simp [F1]) (by decide) (by simp) (by simp) (.inl rfl) (by simp) (by simp) ?_;obtain ⟨v25,h8,hF⟩:=AdV hF;have h8_:=h8;try simp at h8_
   have F2:=A3 F1 h8 h8_;try simp [F2]
   and_intros <;> first | exact GK g | apply r | omega | (simp [maxLen,F2] <;> omega)
   refine hK165 _ _ _ ?_;refine WK [(0,AV.ptr 0 0),(4,AV.ptr 1 0),(5,AV.ptr 3 0),(6,Iz v25),(7,Iz v20)] [(0,.cells [Lz v0,Iz v24]),(1,AbY ),(2,Gi ([] : List Int)),(3,.cells [Lz v14,AV.slc 5 0 1 ((v22++([v19] : List Int)).length) false,Iz v11]),(5,Gi (v22++([v19] : List Int)))] 6 (by simp [F2]) (by simp [F2] <;> omega) ?_;refine RG [] [none,none,none] fun _ _ g r=>?_;try simp [F2]
   and_intros <;> first | exact GK g | apply r | omega | (simp [maxLen,F2] <;> omega)
   refine hK159 _ _ _ ?_;refine Can.weak [(0,AV.ptr 0 0),(4,AV.ptr 1 0),(5,AV.ptr 3 0),(6,Iz v25),(7,Iz (IntKind.wrap .i64 (v20-1)))] [(0,.cells [Lz v0,Iz v24]),(1,AbY ),(2,Gi ([] : List Int)),(3,.cells [Lz v14,AV.slc 5 0 1 ((v22++([v19] : List Int)).length) false,Iz v11]),(5,Gi (v22++([v19] : List Int)))] 6 (by simp [F2]) (by simp [F2] <;> omega) (by simp) ?_;refine Can.ren (m:=1) h0 [(0,0),(1,1),(2,2),(3,3),(4,5)] [(0,AV.ptr 0 0),(4,AV.ptr 1 0),(5,AV.ptr 3 0),(6,Iz v25),(7,Iz (IntKind.wrap .i64 (v20-1)))] [(0,.cells [Lz v0,Iz v24]),(1,AbY ),(2,Gi ([] : List Int)),(3,.cells [Lz v14,AV.slc 4 0 1 ((v22++([v19] : List Int)).length) false,Iz v11]),(4,Gi (v22++([v19] : List Int)))] 5 (by decide) (by decide) (by decide) rfl (by simp [F2]) (by simp [F2]) ?_;exact NX (k':=n2) ((v25,IntKind.wrap .i64 (v20-1),v24,v22++([v19] : List Int))) hF (by simp [F2]) (by simp [F2])
  ·replace hF:=AaY h5 hF;have h5_:=h5;try simp at h5_
   refine CF (by simp [h5,h5_] <;> omega) ?_;refine AW.exit ?_;try simp
   refine hK130 _ _ _ ?_;refine SQ [] [none,none] fun _ _ g r=>?_;try simp [h5,h5_]
   and_intros <;> first | exact GK g | apply r | omega | (simp [h5,h5_,maxLen] <;> omega)
   refine WK [(4,AV.ptr 1 0)] [(0,.cells [Lz v0,Iz v21]),(1,.cells [Lz v14,AV.slc 4 0 1 v22.length false,Iz v11]),(4,Gi v22)] 5 (by simp [h5,h5_]) (by simp [h5,h5_]) ?_;refine AW.rnm (m:=1) h0 [(0,0),(1,4),(2,1)] [(4,AV.ptr 2 0)] [(0,.cells [Lz v0,Iz v21]),(1,Gi v22),(2,.cells [Lz v14,AV.slc 1 0 1 v22.length false,Iz v11])] 3 (by decide) (by decide) (by decide) rfl (by simp [h5,h5_]) (by simp [h5,h5_]) ?_;simp only [Option.some.injEq,Prod.mk.injEq] at hF;obtain ⟨e0,e1,e2,e3⟩:=hF;subst e0 e1 e2 e3;refine AW.ret (hQ _ _ _ ?_ (AaF ?_)).1
   ·simp [Try.f13,h5,h5_]
   ·simp [h5,h5_]
theorem AgE (k : Nat) (v0 : (List Int)) (v1 : Int) (v2 : Int) (v3 : (List Int)) (v4 : Int) (hF : Aam k v0 v1 v2=some (v3,v4)) :
 Aa9 Try.prog 14 [AV.ptr 0 0,AV.int .i64 v2] [.cells [AV.lst false false (List.map (AV.int .i64) v0),AV.int .i64 v1]] (AV.slc 1 0 1 v3.length false) [some (.cells [AV.lst false false (List.map (AV.int .i64) v0),AV.int .i64 v4]),some (Gi v3)]:=by
 unfold Aam at hF;refine EN Try.func14 ?_;intro c0 w0 Q h0 hQ
 refine WK [(0,AV.ptr 0 0),(1,Iz v2)] [(0,.cells [Lz v0,Iz v1])] 1 (by simp) (by simp) ?_;refine SQ [] [none] fun _ _ g r=>?_;try simp
 and_intros <;> first | exact GK g | apply r | omega | (simp [maxLen] <;> omega)
 refine WK [(0,AV.ptr 0 0),(1,Iz v2)] [(0,.cells [Lz v0,Iz v1])] 1 (by simp) (by simp) ?_;refine SQ [] [none] fun _ _ g r=>?_;try simp
 and_intros <;> first | exact GK g | apply r | omega | (simp [maxLen] <;> omega)
 refine WK [(0,AV.ptr 0 0),(1,Iz v2),(5,AV.lst true true (List.map (AV.int .i64) ([] : List Int)))] [(0,.cells [Lz v0,Iz v1])] 1 (by simp) (by simp) ?_;refine AW.seq fun K121 hK121=>?_;refine SQ [] [none] fun _ _ g r=>?_;try simp
 and_intros <;> first | exact GK g | apply r | omega | (simp [maxLen] <;> omega)
 refine WK [(0,AV.ptr 0 0),(1,Iz v2),(5,AV.lst true true (List.map (AV.int .i64) ([] : List Int))),(6,Iz 0)] [(0,.cells [Lz v0,Iz v1])] 1 (by simp) (by simp) ?_;refine AW.block ?_;refine AW.own' 5 1 true (by simp) (by decide) ?_;refine AW.loopF (α:=(Int×Int×(List Int))) (fun n (v5,v6,v7)=>Aam.L1 k v0 v2 n v5 v6 v7=some (v3,v4)) (fun (v5,v6,v7)=>[(0,AV.ptr 0 0),(1,Iz v2),(5,AV.slc 1 0 1 v7.length false),(6,Iz v5)]) (fun (v5,v6,v7)=>[(0,.cells [Lz v0,Iz v6]),(1,Gi v7)]) 2 k ((0,v1,([] : List Int))) hF (by simp) (by simp) (by simp) ?_;rintro (_|n1) ⟨v5,v6,v7⟩ hF K150 hK150
 ·try dsimp only at hF
  rw [Aam.L1] at hF; cases hF
 try dsimp only at hF
 rw [Aam.L1] at hF;refine AW.seq fun K152 hK152=>?_;refine SQ [] [none,none,none] fun _ _ g r=>?_;try simp
 and_intros <;> first | exact GK g | apply r | omega | (simp [maxLen] <;> omega)
 refine WK [(0,AV.ptr 0 0),(1,Iz v2),(5,AV.slc 1 0 1 v7.length false),(6,Iz v5),(9,AV.bool (decide (v5<v2)))] [(0,.cells [Lz v0,Iz v6]),(1,Gi v7)] 2 (by simp) (by simp) ?_;by_cases h1 : v5<v2
 ·replace hF:=AaX h1 hF;have h1_:=h1;try simp at h1_
  refine CT (by simp [h1,h1_] <;> omega) ?_;refine AW.skip ?_;refine hK152 _ _ _ ?_;refine AW.midF (α:=(Int×(List Int))) (fun (v8,v9)=>Aam.J2 k v5 (fun v5_ v6_ v7_=>Aam.L1 k v0 v2 n1 v5_ v6_ v7_) v8 v9=some (v3,v4)) (fun (v8,v9)=>[(0,AV.ptr 0 0),(1,Iz v2),(5,AV.slc 1 0 1 v9.length false),(6,Iz v5)]) (fun (v8,v9)=>[(0,.cells [Lz v0,Iz v8]),(1,Gi v9)]) 2 (fun K157 hK157=>?_) ?_
  ·refine AW.block ?_;refine SQ [] [none,none,none] fun _ _ g r=>?_;try simp [h1,h1_]
   and_intros
   try any_goals first | omega | (simp [h1,h1_,maxLen] <;> omega)
   obtain ⟨v10,v11,h2,hF⟩:=Aa8 hF;refine Aa1 (Aa4 k _ _ _ _ _ h2) (by simp) [0] [] [0] rfl (.cons (.same (by simp [h1,h1_])) (.cons (.same (by simp [h1,h1_])) .nil)) (by simp [h1,h1_]) (by decide) (by simp) (by simp) (.inl rfl) (by simp) (by simp) ?_;try simp [h1,h1_]
   and_intros <;> first | exact GK g | apply r | omega | (simp [h1,h1_,maxLen] <;> omega)
   refine WK [(0,AV.ptr 0 0),(1,Iz v2),(5,AV.slc 1 0 1 v7.length false),(6,Iz v5),(14,AV.bool (v10==0))] [(0,.cells [Lz v0,Iz v11]),(1,Gi v7)] 2 (by simp [h1,h1_]) (by simp [h1,h1_]) ?_;by_cases h3 : v10=0
   ·replace hF:=AaX h3 hF;have h3q : v10=0:=h3;have h3_:=Abx h3q;have h3__:=Abw h3q;refine CT (by simp [h1,h1_,h3_,h3__,h3q] <;> omega) ?_;refine RG [] [none,none,none,none,none] fun _ _ g r=>?_;obtain ⟨h4,hF⟩:=AaZ hF;have h4_:=h4;try simp at h4_
    have F1:=A6 h1 h1_ h3_ h3__ h3q h4;try simp [F1]
    and_intros <;> first | exact GK g | apply r | omega | (simp [maxLen,F1] <;> omega)
    refine hK157 _ _ _ ?_;refine Can.weak [(0,AV.ptr 0 0),(1,Iz v2),(5,AV.slc 2 0 1 ((v7++([v5] : List Int)).length) false),(6,Iz v5)] [(0,.cells [Lz v0,Iz v11]),(2,Gi (v7++([v5] : List Int)))] 3 (by simp [F1] <;> omega) (by simp [F1]) (by simp) ?_;refine Can.ren (m:=1) h0 [(0,0),(1,2)] [(0,AV.ptr 0 0),(1,Iz v2),(5,AV.slc 1 0 1 ((v7++([v5] : List Int)).length) false),(6,Iz v5)] [(0,.cells [Lz v0,Iz v11]),(1,Gi (v7++([v5] : List Int)))] 2 (by decide) (by decide) (by decide) rfl (by simp [F1]) (by simp [F1]) ?_;exact JN ((v11,v7++([v5] : List Int))) hF (by simp [F1]) (by simp [F1])
   ·replace hF:=AaY h3 hF;have h3_:=Abo h3;have h3__:=Abt h3;have F2:=A5 h1 h1_ h3 h3_ h3__;refine CF (by simp [F2] <;> omega) ?_;refine AW.skip ?_;refine hK157 _ _ _ ?_;exact JN ((v11,v7)) hF (by simp [F2]) (by simp [F2])
  ·rintro ⟨v8,v9⟩ hF
   try dsimp only at hF
   unfold Aam.J2 at hF;refine RG [] [none,none,none] fun _ _ g r=>?_;try simp [h1,h1_]
   and_intros <;> first | exact GK g | apply r | omega | (simp [h1,h1_,maxLen] <;> omega)
   refine hK150 _ _ _ ?_;exact NX (k':=n1) ((IntKind.wrap .i64 (v5+1),v8,v9)) hF (by simp [h1,h1_]) (by simp [h1,h1_])
 ·replace hF:=AaY h1 hF;have h1_:=h1;try simp at h1_
  refine CF (by simp [h1,h1_] <;> omega) ?_;refine AW.exit ?_;try simp
  refine hK121 _ _ _ ?_;refine SQ [] [none,none] fun _ _ g r=>?_;try simp [h1,h1_]
  and_intros <;> first | exact GK g | apply r | omega | (simp [h1,h1_,maxLen] <;> omega)
  refine WK [(4,AV.slc 1 0 1 v7.length false)] [(0,.cells [Lz v0,Iz v6]),(1,Gi v7)] 2 (by simp [h1,h1_]) (by simp [h1,h1_]) ?_;simp only [Option.some.injEq,Prod.mk.injEq] at hF;obtain ⟨e0,e1⟩:=hF;subst e0 e1;refine AW.ret (hQ _ _ _ ?_ (AaF ?_)).1
  ·simp [Try.f14,h1,h1_]
  ·simp [h1,h1_]
theorem Adm (k : Nat) (v0 : (List Int)) (v1 : Int) (v2 : Int) (v3 : Bool) (hF : Aay k v0 v1 v2=some v3) :
 Aa9 Try.prog 41 [AV.lst false false (List.map (AV.int .i64) v0),AV.int .i64 v1,AV.int .i64 v2] [] (AV.bool v3) []:=by
 unfold Aay at hF;refine EN Try.func41 ?_;intro c0 w0 Q h0 hQ
 refine WK [(0,Lz v0),(1,Iz v1),(2,Iz v2)] [] 0 (by simp) (by simp) ?_;refine SQ [] [none] fun _ _ g r=>?_;try simp
 and_intros <;> first | exact GK g | apply r | omega | (simp [maxLen] <;> omega)
 refine WK [(0,Lz v0),(1,Iz v1),(2,Iz v2)] [] 0 (by simp) (by simp) ?_;refine AW.seq fun K167 hK167=>?_;refine SQ [] [none,none,none] fun _ _ g r=>?_;try simp
 and_intros <;> first | exact GK g | apply r | omega | (simp [maxLen] <;> omega)
 refine WK [(0,Lz v0),(1,Iz v1),(2,Iz v2),(9,Lz v0),(10,Iz (v0.length : Int)),(11,Iz 0)] [] 0 (by simp) (by simp) ?_;refine AW.block ?_;refine AW.loopF (α:=Int) (fun n v4=>Aay.L1 k v0 v1 v2 n v4=some v3) (fun v4=>[(0,Lz v0),(1,Iz v1),(2,Iz v2),(9,Lz v0),(10,Iz (v0.length : Int)),(11,Iz v4)]) (fun v4=>[]) 0 k (0) hF (by simp) (by simp) (by simp) ?_;rintro (_|n1) v4 hF K207 hK207
 ·try dsimp only at hF
  rw [Aay.L1] at hF; cases hF
 try dsimp only at hF
 rw [Aay.L1] at hF;refine SQ [] [none] fun _ _ g r=>?_;try simp
 and_intros <;> first | exact GK g | apply r | omega | (simp [maxLen] <;> omega)
 refine WK [(0,Lz v0),(1,Iz v1),(2,Iz v2),(9,Lz v0),(10,Iz (v0.length : Int)),(11,Iz v4),(12,AV.bool (decide (v4<(v0.length : Int))))] [] 0 (by simp) (by simp) ?_;refine AW.seq fun K209 hK209=>?_;by_cases h1 : v4<(v0.length : Int)
 ·replace hF:=AaX h1 hF;have h1_:=h1;try simp at h1_
  refine CT (by simp [h1,h1_] <;> omega) ?_;refine AW.skip ?_;refine hK209 _ _ _ ?_;refine AW.midF (α:=Unit) (fun _=>Aay.J2 k v4 (fun v4_=>Aay.L1 k v0 v1 v2 n1 v4_)=some v3) (fun _=>[(0,Lz v0),(1,Iz v1),(2,Iz v2),(9,Lz v0),(10,Iz (v0.length : Int)),(11,Iz v4)]) (fun _=>[]) 0 (fun K216 hK216=>?_) ?_
  ·refine AW.block ?_;refine SQ [] [none,none,none,none,none] fun _ _ g r=>?_;obtain ⟨v5,h2,h3,h4,hF⟩:=Aaa hF;have h4_:=Aao h4;try simp at h4_
   have h3_:=h3;try simp at h3_
   have F1:=A7 h1 h1_ h2 h3 h4 h4_ h3_;try simp [F1]
   and_intros <;> first | exact GK g | apply r | omega | (simp [maxLen,F1] <;> omega)
   refine WK [(0,Lz v0),(1,Iz v1),(2,Iz v2),(7,Iz v4),(8,Iz v5),(9,Lz v0),(10,Iz (v0.length : Int)),(11,Iz v4)] [] 0 (by simp [F1]) (by simp [F1]) ?_;refine SQ [] [none,none,none,none,some (19,false),some (19,false),some (19,false),none,none,some (24,false),some (24,false),some (24,false),some (27,true),some (27,true),some (27,true),some (27,true),some (27,true),some (27,true),some (27,true),some (24,false),none] fun _ _ g r=>?_;by_cases h5 : v5<v1
   ·replace hF:=AaX h5 hF;have h5_:=h5;try simp at h5_
    have F2:=A3 F1 h5 h5_;try simp [F2]
    and_intros <;> first | exact GK g | apply r | omega | (simp [maxLen,F2] <;> omega)
    refine WK [(0,Lz v0),(1,Iz v1),(2,Iz v2),(9,Lz v0),(10,Iz (v0.length : Int)),(11,Iz v4),(36,AV.bool true)] [] 0 (by simp [F2]) (by simp [F2]) ?_;refine CT (by simp [F2]) ?_;refine SQ [] [none] fun _ _ g r=>?_;try simp [F2]
    and_intros <;> first | exact GK g | apply r | omega | (simp [maxLen,F2] <;> omega)
    refine WK [(6,AV.bool false)] [] 0 (by simp [F2]) (by simp [F2]) ?_;simp only [Option.some.injEq] at hF;subst hF;refine AW.ret (hQ _ _ _ ?_ (AaF ?_)).1
    ·simp [Try.f41,F2]
    ·simp [F2]
   ·replace hF:=AaY h5 hF;have h5_:=h5;try simp at h5_
    by_cases h6 : v2<v5
    ·replace hF:=AaX h6 hF;have h6_:=h6;try simp at h6_
     have F3:=A5 F1 h5 h5_ h6 h6_;try simp [F3]
     and_intros <;> first | exact GK g | apply r | omega | (simp [maxLen,F3] <;> omega)
     refine WK [(0,Lz v0),(1,Iz v1),(2,Iz v2),(9,Lz v0),(10,Iz (v0.length : Int)),(11,Iz v4),(36,AV.bool true)] [] 0 (by simp [F3]) (by simp [F3]) ?_;refine CT (by simp [F3]) ?_;refine SQ [] [none] fun _ _ g r=>?_;try simp [F3]
     and_intros <;> first | exact GK g | apply r | omega | (simp [maxLen,F3] <;> omega)
     refine WK [(6,AV.bool false)] [] 0 (by simp [F3]) (by simp [F3]) ?_;simp only [Option.some.injEq] at hF;subst hF;refine AW.ret (hQ _ _ _ ?_ (AaF ?_)).1
     ·simp [Try.f41,F3]
     ·simp [F3]
    ·replace hF:=AaY h6 hF;have h6_:=h6;try simp at h6_
     by_cases h7 : 0<v4
     ·replace hF:=AaX h7 hF;have h7_:=h7;try simp at h7_
      obtain ⟨v6,h8,h9,h10,hF⟩:=Aaa hF;have h10_:=Aao h10;try simp at h10_
      have h9_:=h9;try simp at h9_
      have F4:=A9 F1 h5 h5_ h6 h6_ h7 h7_ h8 (A4 h9 h10 h10_ h9_);try simp [F4]
      and_intros <;> first | exact GK g | apply r | omega | (simp [maxLen,F4] <;> omega)
      refine WK [(0,Lz v0),(1,Iz v1),(2,Iz v2),(9,Lz v0),(10,Iz (v0.length : Int)),(11,Iz v4),(36,AV.bool (decide (v5≤v6)))] [] 0 (by simp [F4]) (by simp [F4]) ?_;by_cases h11 : v5≤v6
      ·replace hF:=AaX h11 hF;have h11_:=h11;try simp at h11_
       have F5:=A3 F4 h11 h11_;refine CT (by simp [F5] <;> omega) ?_;refine SQ [] [none] fun _ _ g r=>?_;try simp [F5]
       and_intros <;> first | exact GK g | apply r | omega | (simp [maxLen,F5] <;> omega)
       refine WK [(6,AV.bool false)] [] 0 (by simp [F5]) (by simp [F5]) ?_;simp only [Option.some.injEq] at hF;subst hF;refine AW.ret (hQ _ _ _ ?_ (AaF ?_)).1
       ·simp [Try.f41,F5]
       ·simp [F5]
      ·replace hF:=AaY h11 hF;have h11_:=h11;try simp at h11_
       have F6:=A3 F4 h11 h11_;refine CF (by simp [F6] <;> omega) ?_;refine AW.skip ?_;refine hK216 _ _ _ ?_;exact JN (()) hF (by simp [F6]) (by simp [F6])
     ·replace hF:=AaY h7 hF;have h7_:=h7;try simp at h7_
      have F7:=A7 F1 h5 h5_ h6 h6_ h7 h7_;try simp [F7]
      and_intros <;> first | exact GK g | apply r | omega | (simp [maxLen,F7] <;> omega)
      refine WK [(0,Lz v0),(1,Iz v1),(2,Iz v2),(9,Lz v0),(10,Iz (v0.length : Int)),(11,Iz v4),(36,AV.bool false)] [] 0 (by simp [F7]) (by simp [F7]) ?_;refine CF (by simp [F7]) ?_;refine AW.skip ?_;refine hK216 _ _ _ ?_;exact JN (()) hF (by simp [F7]) (by simp [F7])
  ·rintro ⟨⟩ hF
   try dsimp only at hF
   unfold Aay.J2 at hF;refine RG [] [none,none] fun _ _ g r=>?_;try simp [h1,h1_]
   and_intros <;> first | exact GK g | apply r | omega | (simp [h1,h1_,maxLen] <;> omega)
   refine hK207 _ _ _ ?_;exact NX (k':=n1) (IntKind.wrap .i64 (v4+1)) hF (by simp [h1,h1_]) (by simp [h1,h1_])
 ·replace hF:=AaY h1 hF;have h1_:=h1;try simp at h1_
  refine CF (by simp [h1,h1_] <;> omega) ?_;refine AW.exit ?_;try simp
  refine hK167 _ _ _ ?_;refine SQ [] [none] fun _ _ g r=>?_;try simp [h1,h1_]
  and_intros <;> first | exact GK g | apply r | omega | (simp [h1,h1_,maxLen] <;> omega)
  refine WK [(6,AV.bool true)] [] 0 (by simp [h1,h1_]) (by simp [h1,h1_]) ?_;simp only [Option.some.injEq] at hF;subst hF;refine AW.ret (hQ _ _ _ ?_ (AaF ?_)).1
  ·simp [Try.f41,h1,h1_]
  ·simp [h1,h1_]
theorem AeK (k : Nat) (v0 : (List Int)) (v1 : Int) (v2 : Int) (hF : Aau k v0 v1=some v2) :
 Aa9 Try.prog 108 [AV.lst false false (List.map (AV.int .i64) v0),AV.int .i64 v1] [] (AV.int .i64 v2) []:=by
 unfold Aau at hF;refine EN Try.func108 ?_;intro c0 w0 Q h0 hQ
 refine WK [(0,Lz v0),(1,Iz v1)] [] 0 (by simp) (by simp) ?_;refine SQ [] [none] fun _ _ g r=>?_;try simp
 and_intros <;> first | exact GK g | apply r | omega | (simp [maxLen] <;> omega)
 refine WK [(0,Lz v0),(1,Iz v1)] [] 0 (by simp) (by simp) ?_;refine AW.seq fun K131 hK131=>?_;refine SQ [] [none,none,none] fun _ _ g r=>?_;try simp
 and_intros <;> first | exact GK g | apply r | omega | (simp [maxLen] <;> omega)
 refine WK [(0,Lz v0),(1,Iz v1),(7,Iz (v0.length : Int)),(8,Iz 0)] [] 0 (by simp) (by simp) ?_;refine AW.block ?_;refine AW.loopF (α:=Int) (fun n v3=>Aau.L1 k v0 v1 n v3=some v2) (fun v3=>[(0,Lz v0),(1,Iz v1),(7,Iz (v0.length : Int)),(8,Iz v3)]) (fun v3=>[]) 0 k (0) hF (by simp) (by simp) (by simp) ?_;rintro (_|n1) v3 hF K163 hK163
 ·try dsimp only at hF
  rw [Aau.L1] at hF; cases hF
 try dsimp only at hF
 rw [Aau.L1] at hF;refine SQ [] [none] fun _ _ g r=>?_;try simp
 and_intros <;> first | exact GK g | apply r | omega | (simp [maxLen] <;> omega)
 refine WK [(0,Lz v0),(1,Iz v1),(7,Iz (v0.length : Int)),(8,Iz v3),(9,AV.bool (decide (v3<(v0.length : Int))))] [] 0 (by simp) (by simp) ?_;refine AW.seq fun K165 hK165=>?_;by_cases h1 : v3<(v0.length : Int)
 ·replace hF:=AaX h1 hF;have h1_:=h1;try simp at h1_
  refine CT (by simp [h1,h1_] <;> omega) ?_;refine AW.skip ?_;refine hK165 _ _ _ ?_;refine AW.seq fun K169 hK169=>?_;refine AW.block ?_;refine SQ [] [none,none] fun _ _ g r=>?_;try simp [h1,h1_]
  and_intros <;> first | exact GK g | apply r | omega | (simp [h1,h1_,maxLen] <;> omega)
  refine WK [(0,Lz v0),(1,Iz v1),(5,Iz v3),(7,Iz (v0.length : Int)),(8,Iz v3)] [] 0 (by simp [h1,h1_]) (by simp [h1,h1_]) ?_;refine SQ [] [none,none,none,none,none,none] fun _ _ g r=>?_;obtain ⟨v4,h2,h3,h4,hF⟩:=Aaa hF;have h4_:=Aao h4;try simp at h4_
  have h3_:=h3;try simp at h3_
  have F1:=A7 h1 h1_ h2 h3 h4 h4_ h3_;try simp [F1]
  and_intros <;> first | exact GK g | apply r | omega | (simp [maxLen,F1] <;> omega)
  refine WK [(0,Lz v0),(1,Iz v1),(5,Iz v3),(7,Iz (v0.length : Int)),(8,Iz v3),(16,AV.bool (v1==v4))] [] 0 (by simp [F1]) (by simp [F1]) ?_;by_cases h5 : v1=v4
  ·replace hF:=AaX h5 hF;have h5q : v1=v4:=h5;have h5_:=Abx h5q;have h5__:=Abw h5q;have F2:=A3 F1 h5_ h5__;refine CT (by simp [F2] <;> omega) ?_;refine SQ [] [none,none] fun _ _ g r=>?_;try simp [F2]
   and_intros <;> first | exact GK g | apply r | omega | (simp [maxLen,F2] <;> omega)
   refine WK [(4,Iz v3)] [] 0 (by simp [F2]) (by simp [F2]) ?_;simp only [Option.some.injEq] at hF;subst hF;refine AW.ret (hQ _ _ _ ?_ (AaF ?_)).1
   ·simp [Try.f108,F2]
   ·simp [F2]
  ·replace hF:=AaY h5 hF;have h5_:=Abo h5;have h5__:=Abt h5;have F3:=A4 F1 h5 h5_ h5__;refine CF (by simp [F3] <;> omega) ?_;refine AW.skip ?_;refine hK169 _ _ _ ?_;refine RG [] [none,none] fun _ _ g r=>?_;try simp [F3]
   and_intros <;> first | exact GK g | apply r | omega | (simp [maxLen,F3] <;> omega)
   refine hK163 _ _ _ ?_;exact NX (k':=n1) (IntKind.wrap .i64 (v3+1)) hF (by simp [F3]) (by simp [F3])
 ·replace hF:=AaY h1 hF;have h1_:=h1;try simp at h1_
  refine CF (by simp [h1,h1_] <;> omega) ?_;refine AW.exit ?_;try simp
  refine hK131 _ _ _ ?_;refine SQ [] [none] fun _ _ g r=>?_;try simp [h1,h1_]
  and_intros <;> first | exact GK g | apply r | omega | (simp [h1,h1_,maxLen] <;> omega)
  refine WK [(4,Iz (-1))] [] 0 (by simp [h1,h1_]) (by simp [h1,h1_]) ?_;simp only [Option.some.injEq] at hF;subst hF;refine AW.ret (hQ _ _ _ ?_ (AaF ?_)).1
  ·simp [Try.f108,h1,h1_]
  ·simp [h1,h1_]
theorem Abg (k : Nat) (v0 : (List Int)) (v1 : Int) (v2 : Bool) (hF : AbB k v0 v1=some v2) :
 Aa9 Try.prog 90 [AV.lst false false (List.map (AV.int .i64) v0),AV.int .i64 v1] [] (AV.bool v2) []:=by
 unfold AbB at hF;refine EN Try.func90 ?_;intro c0 w0 Q h0 hQ
 refine WK [(0,Lz v0),(1,Iz v1)] [] 0 (by simp) (by simp) ?_;refine SQ [] [none] fun _ _ g r=>?_;try simp
 and_intros <;> first | exact GK g | apply r | omega | (simp [maxLen] <;> omega)
 refine WK [(0,Lz v0),(1,Iz v1)] [] 0 (by simp) (by simp) ?_;refine SQ [] [none,none,none,none,none] fun _ _ g r=>?_;try simp
 and_intros
 try any_goals first | omega | (simp [maxLen] <;> omega)
 obtain ⟨v3,h1,hF⟩:=AaO hF;refine AC (AeK k _ _ _ h1) (.cons (.same (by simp)) (.cons (.same (by simp)) .nil)) ?_;try simp
 and_intros <;> first | exact GK g | apply r | omega | (simp [maxLen] <;> omega)
 refine WK [(4,AV.bool (decide (0≤v3)))] [] 0 (by simp) (by simp) ?_;simp only [Option.some.injEq] at hF;subst hF;refine AW.ret (hQ _ _ _ ?_ (AaF ?_)).1
 ·simp [Try.f90]
 ·simp
theorem AiZ (k : Nat) (v0 : Int) (v1 : (List AaA)) (v2 : (List Int)) (v3 : Int) (v4 : Int) (v5 : Int) (v6 : Bool) (hF : Adz k v0 v1 v2 v3 v4 v5=some v6) :
 Aa9 Try.prog 93 [AV.agg [AV.int .i64 v0,Q2 v1,AV.lst false false (List.map (AV.int .i64) v2)],AV.agg [AV.int .i64 v3,AV.int .i64 v4,AV.int .i64 v5]] [] (AV.bool v6) []:=by
 unfold Adz at hF;refine EN Try.func93 ?_;intro c0 w0 Q h0 hQ
 refine WK [(0,AV.agg [Iz v0,Q2 v1,Lz v2]),(1,AV.agg [Iz v3,Iz v4,Iz v5])] [] 0 (by simp) (by simp) ?_;refine SQ [] [none,none,none] fun _ _ g r=>?_;try simp
 and_intros <;> first | exact GK g | apply r | omega | (simp [maxLen] <;> omega)
 refine WK [(2,AV.ptr 0 0),(3,AV.ptr 1 0)] [(0,.cells [Iz v0,Q2 v1,Lz v2]),(1,.cells [Iz v3,Iz v4,Iz v5])] 2 (by simp) (by simp) ?_;refine SQ [] [none,none,none,none,none,none,none,some (11,true),some (11,true),some (11,true),some (11,true),some (11,true),some (11,true),none,none,some (19,true),some (19,true),some (19,true),some (19,true),some (19,true),none,none,some (26,true),some (26,true),some (26,true),some (26,true),some (26,true),some (26,true),none,none,some (34,true),some (34,true),some (34,true),some (34,true),some (34,true),some (34,true),none,none] fun _ _ g r=>?_;try simp
 and_intros
 try any_goals first | omega | (simp [maxLen] <;> omega)
 obtain ⟨v7,h1,hF⟩:=AaO hF;refine AC (Abr k _ _ _ _ h1) (.cons (.same (by simp)) (.cons (.same (by simp)) (.cons (.same (by simp)) .nil))) ?_;by_cases h2 : v7=true
 ·replace hF:=AaX h2 hF;have h2_:=h2;try simp at h2_
  try simp [h2,h2_]
  and_intros
  try any_goals first | omega | (simp [h2,h2_,maxLen] <;> omega)
  obtain ⟨v8,h3,hF⟩:=AaO hF;refine AC (Abr k _ _ _ _ h3) (.cons (.same (by simp [h2,h2_])) (.cons (.same (by simp [h2,h2_])) (.cons (.same (by simp [h2,h2_])) .nil))) ?_;by_cases h4 : v8=true
  ·replace hF:=AaX h4 hF;have h4_:=h4;try simp at h4_
   by_cases h5 : v3≠v4
   ·replace hF:=AaX h5 hF;have h5_:=Abo h5;have h5__:=Abt h5;have F1:=A7 h2 h2_ h4 h4_ h5 h5_ h5__;try simp [F1]
    and_intros
    try any_goals first | omega | (simp [maxLen,F1] <;> omega)
    obtain ⟨v9,h6,hF⟩:=AaO hF;refine AC (Abg k _ _ _ h6) (.cons (.same (by simp [F1])) (.cons (.same (by simp [F1])) .nil)) ?_;by_cases h7 : (!v9)=true
    ·replace hF:=AaX h7 hF;have h7_:=h7;try simp at h7_
     have F2:=A3 F1 h7 h7_;try simp [F2]
     and_intros
     try any_goals first | omega | (simp [maxLen,F2] <;> omega)
     obtain ⟨v10,h8,hF⟩:=AaO hF;refine AC (Abg k _ _ _ h8) (.cons (.same (by simp [F2])) (.cons (.same (by simp [F2])) .nil)) ?_;try simp [F2]
     and_intros <;> first | exact GK g | apply r | omega | (simp [maxLen,F2] <;> omega)
     refine WK [(4,AV.bool (!v10))] [] 2 (by simp [F2]) (by simp [F2]) ?_;simp only [Option.some.injEq] at hF;subst hF;refine AW.ret (hQ _ _ _ ?_ (AaF ?_)).1
     ·simp [Try.f93,F2]
     ·simp [F2]
    ·replace hF:=AaY h7 hF;have h7_:=h7;try simp at h7_
     have F3:=A3 F1 h7 h7_;try simp [F3]
     and_intros <;> first | exact GK g | apply r | omega | (simp [maxLen,F3] <;> omega)
     refine WK [(4,AV.bool false)] [] 2 (by simp [F3]) (by simp [F3]) ?_;simp only [Option.some.injEq] at hF;subst hF;refine AW.ret (hQ _ _ _ ?_ (AaF ?_)).1
     ·simp [Try.f93,F3]
     ·simp [F3]
   ·replace hF:=AaY h5 hF;have h5q : v3=v4:=Classical.not_not.1 h5;have h5_:=Abx h5q;have h5__:=Abw h5q;have F4:=A6 h2 h2_ h4 h4_ h5_ h5__;try simp [F4]
    and_intros <;> first | exact GK g | apply r | omega | (simp [maxLen,F4] <;> omega)
    refine WK [(4,AV.bool false)] [] 2 (by simp [F4]) (by simp [F4]) ?_;simp only [Option.some.injEq] at hF;subst hF;refine AW.ret (hQ _ _ _ ?_ (AaF ?_)).1
    ·simp [Try.f93,F4]
    ·simp [F4]
  ·replace hF:=AaY h4 hF;have h4_:=h4;try simp at h4_
   have F5:=A4 h2 h2_ h4 h4_;try simp [F5]
   and_intros <;> first | exact GK g | apply r | omega | (simp [maxLen,F5] <;> omega)
   refine WK [(4,AV.bool false)] [] 2 (by simp [F5]) (by simp [F5]) ?_;simp only [Option.some.injEq] at hF;subst hF;refine AW.ret (hQ _ _ _ ?_ (AaF ?_)).1
   ·simp [Try.f93,F5]
   ·simp [F5]
 ·replace hF:=AaY h2 hF;have h2_:=h2;try simp at h2_
  try simp [h2,h2_]
  and_intros <;> first | exact GK g | apply r | omega | (simp [h2,h2_,maxLen] <;> omega)
  refine WK [(4,AV.bool false)] [] 2 (by simp [h2,h2_]) (by simp [h2,h2_]) ?_;simp only [Option.some.injEq] at hF;subst hF;refine AW.ret (hQ _ _ _ ?_ (AaF ?_)).1
  ·simp [Try.f93,h2,h2_]
  ·simp [h2,h2_]
theorem Aco (k : Nat) (v0 : Int) (v1 : Bool) (hF : Ab1 k v0=some v1) :
 Aa9 Try.prog 113 [AV.int .i64 v0] [] (AV.bool v1) []:=by
 unfold Ab1 at hF;refine EN Try.func113 ?_;intro c0 w0 Q h0 hQ
 refine WK [(0,Iz v0)] [] 0 (by simp) (by simp) ?_;refine SQ [] [none] fun _ _ g r=>?_;try simp
 and_intros <;> first | exact GK g | apply r | omega | (simp [maxLen] <;> omega)
 refine WK [(0,Iz v0)] [] 0 (by simp) (by simp) ?_;refine SQ [] [none,none,none,none] fun _ _ g r=>?_;try simp
 and_intros <;> first | exact GK g | apply r | omega | (simp [maxLen] <;> omega)
 refine WK [(2,AV.bool (v0 !=v0))] [] 0 (by simp) (by simp) ?_;simp only [Option.some.injEq] at hF;subst hF;refine AW.ret (hQ _ _ _ ?_ (AaF ?_)).1
 ·simp [Try.f113]
 ·simp
theorem Ads (k : Nat) (v0 : Int) (v1 : Int) (v2 : Int) (hF : Ab8 k v0 v1=some v2) :
 Aa9 Try.prog 110 [AV.int .i64 v0,AV.int .i64 v1] [] (AV.int .i64 v2) []:=by
 unfold Ab8 at hF;refine EN Try.func110 ?_;intro c0 w0 Q h0 hQ
 refine WK [(0,Iz v0),(1,Iz v1)] [] 0 (by simp) (by simp) ?_;refine SQ [] [none] fun _ _ g r=>?_;try simp
 and_intros <;> first | exact GK g | apply r | omega | (simp [maxLen] <;> omega)
 refine WK [(0,Iz v0),(1,Iz v1)] [] 0 (by simp) (by simp) ?_;refine SQ [] [none,none,none] fun _ _ g r=>?_;try simp
 and_intros
 try any_goals first | omega | (simp [maxLen] <;> omega)
 obtain ⟨v3,h1,hF⟩:=AaO hF;refine AC (Aco k _ _ h1) (.cons (.same (by simp)) .nil) ?_;try simp
 and_intros <;> first | exact GK g | apply r | omega | (simp [maxLen] <;> omega)
 refine WK [(0,Iz v0),(1,Iz v1),(5,AV.bool v3)] [] 0 (by simp) (by simp) ?_;refine SQ [] [none,none,none] fun _ _ g r=>?_;try simp
 and_intros
 try any_goals first | omega | (simp [maxLen] <;> omega)
 obtain ⟨v4,h2,hF⟩:=AaO hF;refine AC (Aco k _ _ h2) (.cons (.same (by simp)) .nil) ?_;try simp
 and_intros <;> first | exact GK g | apply r | omega | (simp [maxLen] <;> omega)
 refine WK [(0,Iz v0),(1,Iz v1),(5,AV.bool v3),(6,AV.bool v4)] [] 0 (by simp) (by simp) ?_;refine AW.seq fun K45 hK45=>?_;refine SQ [] [none] fun _ _ g r=>?_;try simp
 and_intros <;> first | exact GK g | apply r | omega | (simp [maxLen] <;> omega)
 refine WK [(0,Iz v0),(1,Iz v1),(6,AV.bool v4),(11,AV.bool v3)] [] 0 (by simp) (by simp) ?_;by_cases h3 : v3=true
 ·replace hF:=AaX h3 hF;have h3_:=h3;try simp at h3_
  refine CT (by simp [h3,h3_] <;> omega) ?_;refine AW.seq fun K49 hK49=>?_;refine SQ [] [none] fun _ _ g r=>?_;try simp [h3,h3_]
  and_intros <;> first | exact GK g | apply r | omega | (simp [h3,h3_,maxLen] <;> omega)
  refine WK [(12,AV.bool v4)] [] 0 (by simp [h3,h3_]) (by simp [h3,h3_]) ?_;by_cases h4 : v4=true
  ·replace hF:=AaX h4 hF;have h4_:=h4;try simp at h4_
   have F1:=A4 h3 h3_ h4 h4_;refine CT (by simp [F1] <;> omega) ?_;refine SQ [] [none] fun _ _ g r=>?_;try simp [F1]
   and_intros <;> first | exact GK g | apply r | omega | (simp [maxLen,F1] <;> omega)
   refine WK [(4,Iz 0)] [] 0 (by simp [F1]) (by simp [F1]) ?_;simp only [Option.some.injEq] at hF;subst hF;refine AW.ret (hQ _ _ _ ?_ (AaF ?_)).1
   ·simp [Try.f110,F1]
   ·simp [F1]
  ·replace hF:=AaY h4 hF;have h4_:=h4;try simp at h4_
   have F2:=A4 h3 h3_ h4 h4_;refine CF (by simp [F2] <;> omega) ?_;refine AW.skip ?_;refine hK49 _ _ _ ?_;refine SQ [] [none] fun _ _ g r=>?_;try simp [F2]
   and_intros <;> first | exact GK g | apply r | omega | (simp [maxLen,F2] <;> omega)
   refine WK [(4,Iz (-1))] [] 0 (by simp [F2]) (by simp [F2]) ?_;simp only [Option.some.injEq] at hF;subst hF;refine AW.ret (hQ _ _ _ ?_ (AaF ?_)).1
   ·simp [Try.f110,F2]
   ·simp [F2]
 ·replace hF:=AaY h3 hF;have h3_:=h3;try simp at h3_
  refine CF (by simp [h3,h3_] <;> omega) ?_;refine AW.skip ?_;refine hK45 _ _ _ ?_;refine AW.seq fun K55 hK55=>?_;refine SQ [] [none] fun _ _ g r=>?_;try simp [h3,h3_]
  and_intros <;> first | exact GK g | apply r | omega | (simp [h3,h3_,maxLen] <;> omega)
  refine WK [(0,Iz v0),(1,Iz v1),(13,AV.bool v4)] [] 0 (by simp [h3,h3_]) (by simp [h3,h3_]) ?_;by_cases h5 : v4=true
  ·replace hF:=AaX h5 hF;have h5_:=h5;try simp at h5_
   have F3:=A4 h3 h3_ h5 h5_;refine CT (by simp [F3] <;> omega) ?_;refine SQ [] [none] fun _ _ g r=>?_;try simp [F3]
   and_intros <;> first | exact GK g | apply r | omega | (simp [maxLen,F3] <;> omega)
   refine WK [(4,Iz 1)] [] 0 (by simp [F3]) (by simp [F3]) ?_;simp only [Option.some.injEq] at hF;subst hF;refine AW.ret (hQ _ _ _ ?_ (AaF ?_)).1
   ·simp [Try.f110,F3]
   ·simp [F3]
  ·replace hF:=AaY h5 hF;have h5_:=h5;try simp at h5_
   have F4:=A4 h3 h3_ h5 h5_;refine CF (by simp [F4] <;> omega) ?_;refine AW.skip ?_;refine hK55 _ _ _ ?_;refine AW.seq fun K60 hK60=>?_;refine SQ [] [none,none,none] fun _ _ g r=>?_;try simp [F4]
   and_intros <;> first | exact GK g | apply r | omega | (simp [maxLen,F4] <;> omega)
   refine WK [(0,Iz v0),(1,Iz v1),(16,AV.bool (decide (v0<v1)))] [] 0 (by simp [F4]) (by simp [F4]) ?_;by_cases h6 : v0<v1
   ·replace hF:=AaX h6 hF;have h6_:=h6;try simp at h6_
    have F5:=A3 F4 h6 h6_;refine CT (by simp [F5] <;> omega) ?_;refine SQ [] [none] fun _ _ g r=>?_;try simp [F5]
    and_intros <;> first | exact GK g | apply r | omega | (simp [maxLen,F5] <;> omega)
    refine WK [(4,Iz (-1))] [] 0 (by simp [F5]) (by simp [F5]) ?_;simp only [Option.some.injEq] at hF;subst hF;refine AW.ret (hQ _ _ _ ?_ (AaF ?_)).1
    ·simp [Try.f110,F5]
    ·simp [F5]
   ·replace hF:=AaY h6 hF;have h6_:=h6;try simp at h6_
    have F6:=A3 F4 h6 h6_;refine CF (by simp [F6] <;> omega) ?_;refine AW.skip ?_;refine hK60 _ _ _ ?_;refine AW.seq fun K65 hK65=>?_;refine SQ [] [none,none,none] fun _ _ g r=>?_;try simp [F6]
    and_intros <;> first | exact GK g | apply r | omega | (simp [maxLen,F6] <;> omega)
    refine WK [(19,AV.bool (decide (v1<v0)))] [] 0 (by simp [F6]) (by simp [F6]) ?_;by_cases h7 : v1<v0
    ·replace hF:=AaX h7 hF;have h7_:=h7;try simp at h7_
     have F7:=A3 F6 h7 h7_;refine CT (by simp [F7] <;> omega) ?_;refine SQ [] [none] fun _ _ g r=>?_;try simp [F7]
     and_intros <;> first | exact GK g | apply r | omega | (simp [maxLen,F7] <;> omega)
     refine WK [(4,Iz 1)] [] 0 (by simp [F7]) (by simp [F7]) ?_;simp only [Option.some.injEq] at hF;subst hF;refine AW.ret (hQ _ _ _ ?_ (AaF ?_)).1
     ·simp [Try.f110,F7]
     ·simp [F7]
    ·replace hF:=AaY h7 hF;have h7_:=h7;try simp at h7_
     have F8:=A3 F6 h7 h7_;refine CF (by simp [F8] <;> omega) ?_;refine AW.skip ?_;refine hK65 _ _ _ ?_;refine SQ [] [none] fun _ _ g r=>?_;try simp [F8]
     and_intros <;> first | exact GK g | apply r | omega | (simp [maxLen,F8] <;> omega)
     refine WK [(4,Iz 0)] [] 0 (by simp [F8]) (by simp [F8]) ?_;simp only [Option.some.injEq] at hF;subst hF;refine AW.ret (hQ _ _ _ ?_ (AaF ?_)).1
     ·simp [Try.f110,F8]
     ·simp [F8]
theorem Aib (k : Nat) (v0 : (List Int)) (v1 : Int) (hF : Abn k v0=some v1) :
 Aa9 Try.prog 109 [AV.lst false false (List.map (AV.int .i64) v0)] [] (AV.int .i64 v1) []:=by
 unfold Abn at hF;refine EN Try.func109 ?_;intro c0 w0 Q h0 hQ
 refine WK [(0,Lz v0)] [] 0 (by simp) (by simp) ?_;refine SQ [] [none] fun _ _ g r=>?_;try simp
 and_intros <;> first | exact GK g | apply r | omega | (simp [maxLen] <;> omega)
 refine WK [(0,Lz v0)] [] 0 (by simp) (by simp) ?_;refine SQ [] [none] fun _ _ g r=>?_;try simp
 and_intros <;> first | exact GK g | apply r | omega | (simp [maxLen] <;> omega)
 refine WK [(0,Lz v0),(3,Iz 0)] [] 0 (by simp) (by simp) ?_;refine AW.seq fun K133 hK133=>?_;refine SQ [] [none,none,none] fun _ _ g r=>?_;try simp
 and_intros <;> first | exact GK g | apply r | omega | (simp [maxLen] <;> omega)
 refine WK [(3,Iz 0),(6,Lz v0),(7,Iz (v0.length : Int)),(8,Iz 0)] [] 0 (by simp) (by simp) ?_;refine AW.block ?_;refine AW.loopF (α:=Int) (fun n v2=>Abn.L1 k v0 n v2=some v1) (fun v2=>[(3,Iz 0),(6,Lz v0),(7,Iz (v0.length : Int)),(8,Iz v2)]) (fun v2=>[]) 0 k (0) hF (by simp) (by simp) (by simp) ?_;rintro (_|n1) v2 hF K165 hK165
 ·try dsimp only at hF
  rw [Abn.L1] at hF; cases hF
 try dsimp only at hF
 rw [Abn.L1] at hF;refine SQ [] [none] fun _ _ g r=>?_;try simp
 and_intros <;> first | exact GK g | apply r | omega | (simp [maxLen] <;> omega)
 refine WK [(3,Iz 0),(6,Lz v0),(7,Iz (v0.length : Int)),(8,Iz v2),(9,AV.bool (decide (v2<(v0.length : Int))))] [] 0 (by simp) (by simp) ?_;refine AW.seq fun K167 hK167=>?_;by_cases h1 : v2<(v0.length : Int)
 ·replace hF:=AaX h1 hF;have h1_:=h1;try simp at h1_
  refine CT (by simp [h1,h1_] <;> omega) ?_;refine AW.skip ?_;refine hK167 _ _ _ ?_;refine AW.seq fun K171 hK171=>?_;refine AW.block ?_;refine SQ [] [none,none,none] fun _ _ g r=>?_;obtain ⟨v3,h2,h3,h4,hF⟩:=Aaa hF;have h4_:=Aao h4;try simp at h4_
  have h3_:=h3;try simp at h3_
  have F1:=A7 h1 h1_ h2 h3 h4 h4_ h3_;try simp [F1]
  and_intros <;> first | exact GK g | apply r | omega | (simp [maxLen,F1] <;> omega)
  refine WK [(3,Iz 0),(5,Iz v3),(6,Lz v0),(7,Iz (v0.length : Int)),(8,Iz v2)] [] 0 (by simp [F1]) (by simp [F1]) ?_;refine SQ [] [none,none,none] fun _ _ g r=>?_;try simp [F1]
  and_intros <;> first | exact GK g | apply r | omega | (simp [maxLen,F1] <;> omega)
  refine WK [(3,Iz 0),(5,Iz v3),(6,Lz v0),(7,Iz (v0.length : Int)),(8,Iz v2),(14,AV.bool (v3 !=0))] [] 0 (by simp [F1]) (by simp [F1]) ?_;by_cases h5 : v3≠0
  ·replace hF:=AaX h5 hF;have h5_:=Abo h5;have h5__:=Abt h5;have F2:=A4 F1 h5 h5_ h5__;refine CT (by simp [F2] <;> omega) ?_;refine SQ [] [none,none] fun _ _ g r=>?_;try simp [F2]
   and_intros <;> first | exact GK g | apply r | omega | (simp [maxLen,F2] <;> omega)
   refine WK [(2,Iz v3)] [] 0 (by simp [F2]) (by simp [F2]) ?_;simp only [Option.some.injEq] at hF;subst hF;refine AW.ret (hQ _ _ _ ?_ (AaF ?_)).1
   ·simp [Try.f109,F2]
   ·simp [F2]
  ·replace hF:=AaY h5 hF;have h5q : v3=0:=Classical.not_not.1 h5;have h5_:=Abx h5q;have h5__:=Abw h5q;have F3:=A4 F1 h5_ h5__ h5q;refine CF (by simp [F3] <;> omega) ?_;refine AW.skip ?_;refine hK171 _ _ _ ?_;refine RG [] [none,none] fun _ _ g r=>?_;try simp [F3]
   and_intros <;> first | exact GK g | apply r | omega | (simp [maxLen,F3] <;> omega)
   refine hK165 _ _ _ ?_;exact NX (k':=n1) (IntKind.wrap .i64 (v2+1)) hF (by simp [F3]) (by simp [F3])
 ·replace hF:=AaY h1 hF;have h1_:=h1;try simp at h1_
  refine CF (by simp [h1,h1_] <;> omega) ?_;refine AW.exit ?_;try simp
  refine hK133 _ _ _ ?_;refine SQ [] [none,none] fun _ _ g r=>?_;try simp [h1,h1_]
  and_intros <;> first | exact GK g | apply r | omega | (simp [h1,h1_,maxLen] <;> omega)
  refine WK [(2,Iz 0)] [] 0 (by simp [h1,h1_]) (by simp [h1,h1_]) ?_;simp only [Option.some.injEq] at hF;subst hF;refine AW.ret (hQ _ _ _ ?_ (AaF ?_)).1
  ·simp [Try.f109,h1,h1_]
  ·simp [h1,h1_]
theorem Agb (k : Nat) (v0 : Int) (v1 : Int) (v2 : Int) (v3 : Int) (v4 : Int) (v5 : Int) (v6 : Int) (hF : Acw k v0 v1 v2 v3 v4 v5=some v6) :
 Aa9 Try.prog 94 [AV.agg [AV.int .i64 v0,AV.int .i64 v1,AV.int .i64 v2],AV.agg [AV.int .i64 v3,AV.int .i64 v4,AV.int .i64 v5]] [] (AV.int .i64 v6) []:=by
 unfold Acw at hF;refine EN Try.func94 ?_;intro c0 w0 Q h0 hQ
 refine WK [(0,AV.agg [Iz v0,Iz v1,Iz v2]),(1,AV.agg [Iz v3,Iz v4,Iz v5])] [] 0 (by simp) (by simp) ?_;refine SQ [] [none,none,none] fun _ _ g r=>?_;try simp
 and_intros <;> first | exact GK g | apply r | omega | (simp [maxLen] <;> omega)
 refine WK [(2,AV.ptr 0 0),(3,AV.ptr 1 0)] [(0,.cells [Iz v0,Iz v1,Iz v2]),(1,.cells [Iz v3,Iz v4,Iz v5])] 2 (by simp) (by simp) ?_;refine SQ [] [none,none,none,none,none,none,none,none,none,none,none,none,none] fun _ _ g r=>?_;try simp
 and_intros
 try any_goals first | omega | (simp [maxLen] <;> omega)
 obtain ⟨v7,h1,hF⟩:=AaO hF;refine AC (Ads k _ _ _ h1) (.cons (.same (by simp)) (.cons (.same (by simp)) .nil)) ?_;try simp
 and_intros
 try any_goals first | omega | (simp [maxLen] <;> omega)
 obtain ⟨v8,h2,hF⟩:=AaO hF;refine AC (Ads k _ _ _ h2) (.cons (.same (by simp)) (.cons (.same (by simp)) .nil)) ?_;try simp
 and_intros
 try any_goals first | omega | (simp [maxLen] <;> omega)
 obtain ⟨v9,h3,hF⟩:=AaO hF;refine AC (Aib k _ _ h3) (.cons (Coe.fl (by simp)) .nil) ?_;try simp
 and_intros <;> first | exact GK g | apply r | omega | (simp [maxLen] <;> omega)
 refine WK [(4,Iz v9)] [] 2 (by simp) (by simp) ?_;simp only [Option.some.injEq] at hF;subst hF;refine AW.ret (hQ _ _ _ ?_ (AaF ?_)).1
 ·simp [Try.f94]
 ·simp
theorem Ahp (k : Nat) (v0 : Int) (v1 : (List AaA)) (v2 : (List Int)) (v3 : Int) (hF : AbA k v0 v1 v2=some v3) :
 Aa9 Try.prog 72 [AV.agg [AV.int .i64 v0,Q2 v1,AV.lst false false (List.map (AV.int .i64) v2)]] [] (AV.int .i64 v3) []:=by
 unfold AbA at hF;refine EN Try.func72 ?_;intro c0 w0 Q h0 hQ
 refine WK [(0,AV.agg [Iz v0,Q2 v1,Lz v2])] [] 0 (by simp) (by simp) ?_;refine SQ [] [none,none] fun _ _ g r=>?_;try simp
 and_intros <;> first | exact GK g | apply r | omega | (simp [maxLen] <;> omega)
 refine WK [(1,AV.ptr 0 0)] [(0,.cells [Iz v0,Q2 v1,Lz v2])] 1 (by simp) (by simp) ?_;refine AW.seq fun K126 hK126=>?_;refine SQ [] [none,none,none,none,none,some (9,false),some (9,false),some (9,false),some (9,false),none,none,some (15,false),some (15,false),some (15,false),some (15,false),some (15,false),some (15,false),some (15,false),none] fun _ _ g r=>?_;try simp
 and_intros
 try any_goals first | omega | (simp [maxLen] <;> omega)
 obtain ⟨v4,h1,hF⟩:=AaO hF;refine AC (Abr k _ _ _ _ h1) (.cons (.same (by simp)) (.cons (.same (by simp)) (.cons (.same (by simp)) .nil))) ?_;by_cases h2 : (!v4)=true
 ·replace hF:=AaX h2 hF;have h2_:=h2;try simp at h2_
  try simp [h2,h2_]
  and_intros <;> first | exact GK g | apply r | omega | (simp [h2,h2_,maxLen] <;> omega)
  refine WK [(1,AV.ptr 0 0),(23,AV.bool true)] [(0,.cells [Iz v0,Q2 v1,Lz v2])] 1 (by simp [h2,h2_]) (by simp [h2,h2_]) ?_;refine CT (by simp [h2,h2_]) ?_;refine SQ [] [none] fun _ _ g r=>?_;try simp [h2,h2_]
  and_intros <;> first | exact GK g | apply r | omega | (simp [h2,h2_,maxLen] <;> omega)
  refine WK [(2,Iz 14)] [] 1 (by simp [h2,h2_]) (by simp [h2,h2_]) ?_;simp only [Option.some.injEq] at hF;subst hF;refine AW.ret (hQ _ _ _ ?_ (AaF ?_)).1
  ·simp [Try.f72,h2,h2_]
  ·simp [h2,h2_]
 ·replace hF:=AaY h2 hF;have h2_:=h2;try simp at h2_
  by_cases h3 : 500<(v1.length : Int)
  ·replace hF:=AaX h3 hF;have h3_:=h3;try simp at h3_
   have F1:=A4 h2 h2_ h3 h3_;try simp [F1]
   and_intros <;> first | exact GK g | apply r | omega | (simp [maxLen,F1] <;> omega)
   refine WK [(1,AV.ptr 0 0),(23,AV.bool true)] [(0,.cells [Iz v0,Q2 v1,Lz v2])] 1 (by simp [F1]) (by simp [F1]) ?_;refine CT (by simp [F1]) ?_;refine SQ [] [none] fun _ _ g r=>?_;try simp [F1]
   and_intros <;> first | exact GK g | apply r | omega | (simp [maxLen,F1] <;> omega)
   refine WK [(2,Iz 14)] [] 1 (by simp [F1]) (by simp [F1]) ?_;simp only [Option.some.injEq] at hF;subst hF;refine AW.ret (hQ _ _ _ ?_ (AaF ?_)).1
   ·simp [Try.f72,F1]
   ·simp [F1]
  ·replace hF:=AaY h3 hF;have h3_:=h3;try simp at h3_
   have F2:=A4 h2 h2_ h3 h3_;try simp [F2]
   and_intros
   try any_goals first | omega | (simp [maxLen,F2] <;> omega)
   obtain ⟨v5,h4,hF⟩:=AaO hF;refine AC (Adm k _ _ _ _ h4) (.cons (.same (by simp [F2])) (.cons (.same (by simp [F2])) (.cons (.same (by simp [F2])) .nil))) ?_;try simp [F2]
   and_intros <;> first | exact GK g | apply r | omega | (simp [maxLen,F2] <;> omega)
   refine WK [(1,AV.ptr 0 0),(23,AV.bool (!v5))] [(0,.cells [Iz v0,Q2 v1,Lz v2])] 1 (by simp [F2]) (by simp [F2]) ?_;by_cases h5 : (!v5)=true
   ·replace hF:=AaX h5 hF;have h5_:=h5;try simp at h5_
    have F3:=A3 F2 h5 h5_;refine CT (by simp [F3] <;> omega) ?_;refine SQ [] [none] fun _ _ g r=>?_;try simp [F3]
    and_intros <;> first | exact GK g | apply r | omega | (simp [maxLen,F3] <;> omega)
    refine WK [(2,Iz 14)] [] 1 (by simp [F3]) (by simp [F3]) ?_;simp only [Option.some.injEq] at hF;subst hF;refine AW.ret (hQ _ _ _ ?_ (AaF ?_)).1
    ·simp [Try.f72,F3]
    ·simp [F3]
   ·replace hF:=AaY h5 hF;have h5_:=h5;try simp at h5_
    have F4:=A3 F2 h5 h5_;refine CF (by simp [F4] <;> omega) ?_;refine AW.skip ?_;refine hK126 _ _ _ ?_;refine AW.seq fun K185 hK185=>?_;refine SQ [] [none,none,none,none] fun _ _ g r=>?_;try simp [F4]
    and_intros <;> first | exact GK g | apply r | omega | (simp [maxLen,F4] <;> omega)
    refine WK [(1,AV.ptr 0 0),(25,Q2 v1),(26,Iz (v1.length : Int)),(27,Iz 0)] [(0,.cells [Iz v0,Q2 v1,Lz v2])] 1 (by simp [F4]) (by simp [F4]) ?_;refine AW.block ?_;refine AW.loopF (α:=Int) (fun n v6=>AbA.L1 k v0 v1 v2 n v6=some v3) (fun v6=>[(1,AV.ptr 0 0),(25,Q2 v1),(26,Iz (v1.length : Int)),(27,Iz v6)]) (fun v6=>[(0,.cells [Iz v0,Q2 v1,Lz v2])]) 1 k (0) hF (by simp [F4]) (by simp [F4]) (by simp) ?_;rintro (_|n1) v6 hF K225 hK225
    ·try dsimp only at hF
     rw [AbA.L1] at hF; cases hF
    try dsimp only at hF
    rw [AbA.L1] at hF;refine SQ [] [none] fun _ _ g r=>?_;try simp [F4]
    and_intros <;> first | exact GK g | apply r | omega | (simp [maxLen,F4] <;> omega)
    refine WK [(1,AV.ptr 0 0),(25,Q2 v1),(26,Iz (v1.length : Int)),(27,Iz v6),(28,AV.bool (decide (v6<(v1.length : Int))))] [(0,.cells [Iz v0,Q2 v1,Lz v2])] 1 (by simp [F4]) (by simp [F4]) ?_;refine AW.seq fun K227 hK227=>?_;by_cases h6 : v6<(v1.length : Int)
    ·replace hF:=AaX h6 hF;have h6_:=h6;try simp at h6_
     have F5:=A3 F4 h6 h6_;refine CT (by simp [F5] <;> omega) ?_;refine AW.skip ?_;refine hK227 _ _ _ ?_;refine AW.midF (α:=Unit) (fun _=>AbA.J2 k v6 (fun v6_=>AbA.L1 k v0 v1 v2 n1 v6_)=some v3) (fun _=>[(1,AV.ptr 0 0),(25,Q2 v1),(26,Iz (v1.length : Int)),(27,Iz v6)]) (fun _=>[(0,.cells [Iz v0,Q2 v1,Lz v2])]) 1 (fun K234 hK234=>?_) ?_
     ·refine AW.block ?_;refine SQ [] [none,none,none,none,none,none] fun _ _ g r=>?_;obtain ⟨v7,h7,h8,h9,hF⟩:=Aaa hF;have h9_:=Aao h9;try simp at h9_
      have h8_:=h8;try simp at h8_
      have F6:=A6 F5 h7 h8 h9 h9_ h8_;try simp [F6]
      and_intros <;> first | exact GK g | apply r | omega | (simp [maxLen,F6] <;> omega)
      refine WK [(1,AV.ptr 0 0),(3,Iz v6),(4,AV.ptr 1 0),(25,Q2 v1),(26,Iz (v1.length : Int)),(27,Iz v6)] [(0,.cells [Iz v0,Q2 v1,Lz v2]),(1,.cells [Iz v7.From,Iz v7.To,Iz v7.Level])] 2 (by simp [F6]) (by simp [F6]) ?_;refine SQ [] [none,none,none,none,none,some (36,false),some (36,false),some (36,false),some (36,false),none,none,some (42,false),some (42,false),some (42,false),some (45,true),some (45,true),some (45,true),some (45,true),some (45,true),some (45,true),some (45,true),some (45,true),some (45,true),some (42,false),none] fun _ _ g r=>?_;try simp [F6]
      and_intros
      try any_goals first | omega | (simp [maxLen,F6] <;> omega)
      obtain ⟨v8,h10,hF⟩:=AaO hF;refine AC (AiZ k _ _ _ _ _ _ _ h10) (.cons (.same (by simp [F6])) (.cons (.same (by simp [F6])) .nil)) ?_;by_cases h11 : (!v8)=true
      ·replace hF:=AaX h11 hF;have h11_:=h11;try simp at h11_
       have F7:=A3 F6 h11 h11_;try simp [F7]
       and_intros <;> first | exact GK g | apply r | omega | (simp [maxLen,F7] <;> omega)
       refine WK [(1,AV.ptr 0 0),(25,Q2 v1),(26,Iz (v1.length : Int)),(27,Iz v6),(56,AV.bool true)] [(0,.cells [Iz v0,Q2 v1,Lz v2])] 2 (by simp [F7]) (by simp [F7]) ?_;refine CT (by simp [F7]) ?_;refine SQ [] [none] fun _ _ g r=>?_;try simp [F7]
       and_intros <;> first | exact GK g | apply r | omega | (simp [maxLen,F7] <;> omega)
       refine WK [(2,Iz 14)] [] 2 (by simp [F7]) (by simp [F7]) ?_;simp only [Option.some.injEq] at hF;subst hF;refine AW.ret (hQ _ _ _ ?_ (AaF ?_)).1
       ·simp [Try.f72,F7]
       ·simp [F7]
      ·replace hF:=AaY h11 hF;have h11_:=h11;try simp at h11_
       have F8:=A3 F6 h11 h11_;try simp [F8]
       and_intros
       try any_goals first | omega | (simp [maxLen,F8] <;> omega)
       obtain ⟨v9,h12,hF⟩:=AaO hF;refine AC (Abr k _ _ _ _ h12) (.cons (.same (by simp [F8])) (.cons (.same (by simp [F8])) (.cons (.same (by simp [F8])) .nil))) ?_;by_cases h13 : (!v9)=true
       ·replace hF:=AaX h13 hF;have h13_:=h13;try simp at h13_
        have F9:=A3 F8 h13 h13_;try simp [F9]
        and_intros <;> first | exact GK g | apply r | omega | (simp [maxLen,F9] <;> omega)
        refine WK [(1,AV.ptr 0 0),(25,Q2 v1),(26,Iz (v1.length : Int)),(27,Iz v6),(56,AV.bool true)] [(0,.cells [Iz v0,Q2 v1,Lz v2])] 2 (by simp [F9]) (by simp [F9]) ?_;refine CT (by simp [F9]) ?_;refine SQ [] [none] fun _ _ g r=>?_;try simp [F9]
        and_intros <;> first | exact GK g | apply r | omega | (simp [maxLen,F9] <;> omega)
        refine WK [(2,Iz 14)] [] 2 (by simp [F9]) (by simp [F9]) ?_;simp only [Option.some.injEq] at hF;subst hF;refine AW.ret (hQ _ _ _ ?_ (AaF ?_)).1
        ·simp [Try.f72,F9]
        ·simp [F9]
       ·replace hF:=AaY h13 hF;have h13_:=h13;try simp at h13_
        by_cases h14 : 0<v6
        ·replace hF:=AaX h14 hF;have h14_:=h14;try simp at h14_
         obtain ⟨v10,h15,h16,h17,hF⟩:=Aaa hF;have h17_:=Aao h17;try simp at h17_
         have h16_:=h16;try simp at h16_
         have F10:=A9 F8 h13 h13_ h14 h14_ h15 h16 h17 (A2 h17_ h16_);try simp [F10]
         and_intros
         try any_goals first | omega | (simp [maxLen,F10] <;> omega)
         obtain ⟨v11,h18,hF⟩:=AaO hF;refine AC (Agb k _ _ _ _ _ _ _ h18) (.cons (.same (by simp [F10])) (.cons (.same (by simp [F10])) .nil)) ?_;try simp [F10]
         and_intros <;> first | exact GK g | apply r | omega | (simp [maxLen,F10] <;> omega)
         refine WK [(1,AV.ptr 0 0),(25,Q2 v1),(26,Iz (v1.length : Int)),(27,Iz v6),(56,AV.bool (decide (0≤v11)))] [(0,.cells [Iz v0,Q2 v1,Lz v2])] 2 (by simp [F10]) (by simp [F10]) ?_;by_cases h19 : 0≤v11
         ·replace hF:=AaX h19 hF;have h19_:=h19;try simp at h19_
          have F11:=A3 F10 h19 h19_;refine CT (by simp [F11] <;> omega) ?_;refine SQ [] [none] fun _ _ g r=>?_;try simp [F11]
          and_intros <;> first | exact GK g | apply r | omega | (simp [maxLen,F11] <;> omega)
          refine WK [(2,Iz 14)] [] 2 (by simp [F11]) (by simp [F11]) ?_;simp only [Option.some.injEq] at hF;subst hF;refine AW.ret (hQ _ _ _ ?_ (AaF ?_)).1
          ·simp [Try.f72,F11]
          ·simp [F11]
         ·replace hF:=AaY h19 hF;have h19_:=h19;try simp at h19_
          have F12:=A3 F10 h19 h19_;refine CF (by simp [F12] <;> omega) ?_;refine AW.skip ?_;refine hK234 _ _ _ ?_;refine RN h0 [(0,0)] [(1,AV.ptr 0 0),(25,Q2 v1),(26,Iz (v1.length : Int)),(27,Iz v6)] [(0,.cells [Iz v0,Q2 v1,Lz v2])] 1 (by simp [F12]) (by simp [F12]) ?_;exact JN (()) hF (by simp [F12]) (by simp [F12])
        ·replace hF:=AaY h14 hF;have h14_:=h14;try simp at h14_
         have F13:=A5 F8 h13 h13_ h14 h14_;try simp [F13]
         and_intros <;> first | exact GK g | apply r | omega | (simp [maxLen,F13] <;> omega)
         refine WK [(1,AV.ptr 0 0),(25,Q2 v1),(26,Iz (v1.length : Int)),(27,Iz v6),(56,AV.bool false)] [(0,.cells [Iz v0,Q2 v1,Lz v2])] 2 (by simp [F13]) (by simp [F13]) ?_;refine CF (by simp [F13]) ?_;refine AW.skip ?_;refine hK234 _ _ _ ?_;refine RN h0 [(0,0)] [(1,AV.ptr 0 0),(25,Q2 v1),(26,Iz (v1.length : Int)),(27,Iz v6)] [(0,.cells [Iz v0,Q2 v1,Lz v2])] 1 (by simp [F13]) (by simp [F13]) ?_;exact JN (()) hF (by simp [F13]) (by simp [F13])
     ·rintro ⟨⟩ hF
      try dsimp only at hF
      unfold AbA.J2 at hF;refine RG [] [none,none] fun _ _ g r=>?_;try simp [F5]
      and_intros <;> first | exact GK g | apply r | omega | (simp [maxLen,F5] <;> omega)
      refine hK225 _ _ _ ?_;exact NX (k':=n1) (IntKind.wrap .i64 (v6+1)) hF (by simp [F5]) (by simp [F5])
    ·replace hF:=AaY h6 hF;have h6_:=h6;try simp at h6_
     have F14:=A3 F4 h6 h6_;refine CF (by simp [F14] <;> omega) ?_;refine AW.exit ?_;try simp
     refine hK185 _ _ _ ?_;refine SQ [] [none] fun _ _ g r=>?_;try simp [F14]
     and_intros <;> first | exact GK g | apply r | omega | (simp [maxLen,F14] <;> omega)
     refine WK [(2,Iz 0)] [] 1 (by simp [F14]) (by simp [F14]) ?_;simp only [Option.some.injEq] at hF;subst hF;refine AW.ret (hQ _ _ _ ?_ (AaF ?_)).1
     ·simp [Try.f72,F14]
     ·simp [F14]
theorem AgI (k : Nat) (v0 : Int) (v1 : (List AaA)) (v2 : (List Int)) (v3 : (List Int)) (v4 : (List Int)) (v5 : Int) (v6 : Int) (hF : Aan k v0 v1 v2 v3 v4 v5=some v6) :
 Aa9 Try.prog 40 [AV.agg [AV.int .i64 v0,Q2 v1,AV.lst false false (List.map (AV.int .i64) v2)],AV.agg [AV.lst false false (List.map (AV.int .i64) v3),AV.lst false false (List.map (AV.int .i64) v4),AV.int .i64 v5]] [] (AV.int .i64 v6) []:=by
 unfold Aan at hF;refine EN Try.func40 ?_;intro c0 w0 Q h0 hQ
 refine WK [(0,AV.agg [Iz v0,Q2 v1,Lz v2]),(1,AV.agg [Lz v3,Lz v4,Iz v5])] [] 0 (by simp) (by simp) ?_;refine SQ [] [none,none,none] fun _ _ g r=>?_;try simp
 and_intros <;> first | exact GK g | apply r | omega | (simp [maxLen] <;> omega)
 refine WK [(2,AV.ptr 0 0),(3,AV.ptr 1 0)] [(0,.cells [Iz v0,Q2 v1,Lz v2]),(1,.cells [Lz v3,Lz v4,Iz v5])] 2 (by simp) (by simp) ?_;refine AW.seq fun K118 hK118=>?_;refine SQ [] [none,none,none] fun _ _ g r=>?_;try simp
 and_intros
 try any_goals first | omega | (simp [maxLen] <;> omega)
 obtain ⟨v7,h1,hF⟩:=AaO hF;refine AC (Ahp k _ _ _ _ h1) (.cons (.same (by simp)) .nil) ?_;try simp
 and_intros <;> first | exact GK g | apply r | omega | (simp [maxLen] <;> omega)
 refine WK [(2,AV.ptr 0 0),(3,AV.ptr 1 0),(5,Iz v7)] [(0,.cells [Iz v0,Q2 v1,Lz v2]),(1,.cells [Lz v3,Lz v4,Iz v5])] 2 (by simp) (by simp) ?_;refine SQ [] [none,none] fun _ _ g r=>?_;try simp
 and_intros <;> first | exact GK g | apply r | omega | (simp [maxLen] <;> omega)
 refine WK [(2,AV.ptr 0 0),(3,AV.ptr 1 0),(5,Iz v7),(11,AV.bool (v7 !=0))] [(0,.cells [Iz v0,Q2 v1,Lz v2]),(1,.cells [Lz v3,Lz v4,Iz v5])] 2 (by simp) (by simp) ?_;by_cases h2 : v7≠0
 ·replace hF:=AaX h2 hF;have h2_:=Abo h2;have h2__:=Abt h2;have F1:=A3 h2 h2_ h2__;refine CT (by simp [F1] <;> omega) ?_;refine SQ [] [none,none] fun _ _ g r=>?_;try simp [F1]
  and_intros <;> first | exact GK g | apply r | omega | (simp [maxLen,F1] <;> omega)
  refine WK [(4,Iz v7)] [] 2 (by simp [F1]) (by simp [F1]) ?_;simp only [Option.some.injEq] at hF;subst hF;refine AW.ret (hQ _ _ _ ?_ (AaF ?_)).1
  ·simp [Try.f40,F1]
  ·simp [F1]
 ·replace hF:=AaY h2 hF;have h2q : v7=0:=Classical.not_not.1 h2;have h2_:=Abx h2q;have h2__:=Abw h2q;refine CF (by simp [h2_,h2__,h2q] <;> omega) ?_;refine AW.skip ?_;refine hK118 _ _ _ ?_;refine AW.seq fun K127 hK127=>?_;refine SQ [] [none,none,none,none,none,some (17,false),some (17,false),some (17,false),some (17,false),some (17,false),some (17,false),some (17,false),none,none,some (26,false),some (26,false),some (26,false),some (26,false),some (26,false),none,none,some (33,false),some (33,false),some (33,false),some (33,false),none] fun _ _ g r=>?_;by_cases h3 : (v3.length : Int)=0
  ·replace hF:=AaX h3 hF;have h3q : (v3.length : Int)=0:=h3;have h3_:=Abx h3q;have h3__:=Abw h3q;have F2:=A6 h2_ h2__ h2q h3_ h3__ h3q;try simp [F2]
   and_intros <;> first | exact GK g | apply r | omega | (simp [maxLen,F2] <;> omega)
   refine WK [(3,AV.ptr 1 0),(38,AV.bool true)] [(1,.cells [Lz v3,Lz v4,Iz v5])] 2 (by simp [F2]) (by simp [F2]) ?_;refine CT (by simp [F2]) ?_;refine SQ [] [none] fun _ _ g r=>?_;try simp [F2]
   and_intros <;> first | exact GK g | apply r | omega | (simp [maxLen,F2] <;> omega)
   refine WK [(4,Iz 15)] [] 2 (by simp [F2]) (by simp [F2]) ?_;simp only [Option.some.injEq] at hF;subst hF;refine AW.ret (hQ _ _ _ ?_ (AaF ?_)).1
   ·simp [Try.f40,F2]
   ·simp [F2]
  ·replace hF:=AaY h3 hF;have h3_:=Abo h3;have h3__:=Abt h3;have F3:=A6 h2_ h2__ h2q h3 h3_ h3__;try simp [F3]
   and_intros
   try any_goals first | omega | (simp [maxLen,F3] <;> omega)
   obtain ⟨v8,h4,hF⟩:=AaO hF;refine AC (Adm k _ _ _ _ h4) (.cons (.same (by simp [F3])) (.cons (.same (by simp [F3])) (.cons (.same (by simp [F3])) .nil))) ?_;by_cases h5 : (!v8)=true
   ·replace hF:=AaX h5 hF;have h5_:=h5;try simp at h5_
    have F4:=A3 F3 h5 h5_;try simp [F4]
    and_intros <;> first | exact GK g | apply r | omega | (simp [maxLen,F4] <;> omega)
    refine WK [(3,AV.ptr 1 0),(38,AV.bool true)] [(1,.cells [Lz v3,Lz v4,Iz v5])] 2 (by simp [F4]) (by simp [F4]) ?_;refine CT (by simp [F4]) ?_;refine SQ [] [none] fun _ _ g r=>?_;try simp [F4]
    and_intros <;> first | exact GK g | apply r | omega | (simp [maxLen,F4] <;> omega)
    refine WK [(4,Iz 15)] [] 2 (by simp [F4]) (by simp [F4]) ?_;simp only [Option.some.injEq] at hF;subst hF;refine AW.ret (hQ _ _ _ ?_ (AaF ?_)).1
    ·simp [Try.f40,F4]
    ·simp [F4]
   ·replace hF:=AaY h5 hF;have h5_:=h5;try simp at h5_
    have F5:=A3 F3 h5 h5_;try simp [F5]
    and_intros
    try any_goals first | omega | (simp [maxLen,F5] <;> omega)
    obtain ⟨v9,h6,hF⟩:=AaO hF;refine AC (Abr k _ _ _ _ h6) (.cons (.same (by simp [F5])) (.cons (.same (by simp [F5])) (.cons (.same (by simp [F5])) .nil))) ?_;by_cases h7 : (!v9)=true
    ·replace hF:=AaX h7 hF;have h7_:=h7;try simp at h7_
     have F6:=A3 F5 h7 h7_;try simp [F6]
     and_intros <;> first | exact GK g | apply r | omega | (simp [maxLen,F6] <;> omega)
     refine WK [(3,AV.ptr 1 0),(38,AV.bool true)] [(1,.cells [Lz v3,Lz v4,Iz v5])] 2 (by simp [F6]) (by simp [F6]) ?_;refine CT (by simp [F6]) ?_;refine SQ [] [none] fun _ _ g r=>?_;try simp [F6]
     and_intros <;> first | exact GK g | apply r | omega | (simp [maxLen,F6] <;> omega)
     refine WK [(4,Iz 15)] [] 2 (by simp [F6]) (by simp [F6]) ?_;simp only [Option.some.injEq] at hF;subst hF;refine AW.ret (hQ _ _ _ ?_ (AaF ?_)).1
     ·simp [Try.f40,F6]
     ·simp [F6]
    ·replace hF:=AaY h7 hF;have h7_:=h7;try simp at h7_
     have F7:=A3 F5 h7 h7_;try simp [F7]
     and_intros
     try any_goals first | omega | (simp [maxLen,F7] <;> omega)
     obtain ⟨v10,h8,hF⟩:=AaO hF;refine AC (Abr k _ _ _ _ h8) (.cons (.same (by simp [F7])) (.cons (.same (by simp [F7])) (.cons (.same (by simp [F7])) .nil))) ?_;try simp [F7]
     and_intros <;> first | exact GK g | apply r | omega | (simp [maxLen,F7] <;> omega)
     refine WK [(3,AV.ptr 1 0),(38,AV.bool (!v10))] [(1,.cells [Lz v3,Lz v4,Iz v5])] 2 (by simp [F7]) (by simp [F7]) ?_;by_cases h9 : (!v10)=true
     ·replace hF:=AaX h9 hF;have h9_:=h9;try simp at h9_
      have F8:=A3 F7 h9 h9_;refine CT (by simp [F8] <;> omega) ?_;refine SQ [] [none] fun _ _ g r=>?_;try simp [F8]
      and_intros <;> first | exact GK g | apply r | omega | (simp [maxLen,F8] <;> omega)
      refine WK [(4,Iz 15)] [] 2 (by simp [F8]) (by simp [F8]) ?_;simp only [Option.some.injEq] at hF;subst hF;refine AW.ret (hQ _ _ _ ?_ (AaF ?_)).1
      ·simp [Try.f40,F8]
      ·simp [F8]
     ·replace hF:=AaY h9 hF;have h9_:=h9;try simp at h9_
      have F9:=A3 F7 h9 h9_;refine CF (by simp [F9] <;> omega) ?_;refine AW.skip ?_;refine hK127 _ _ _ ?_;refine AW.seq fun K179 hK179=>?_;refine SQ [] [none,none,none,none] fun _ _ g r=>?_;try simp [F9]
      and_intros <;> first | exact GK g | apply r | omega | (simp [maxLen,F9] <;> omega)
      refine WK [(3,AV.ptr 1 0),(40,Lz v4),(41,Iz (v4.length : Int)),(42,Iz 0)] [(1,.cells [Lz v3,Lz v4,Iz v5])] 2 (by simp [F9]) (by simp [F9]) ?_;refine AW.block ?_;refine RM h0 [(0,1)] [(3,AV.ptr 0 0),(40,Lz v4),(41,Iz (v4.length : Int)),(42,Iz 0)] [(0,.cells [Lz v3,Lz v4,Iz v5])] 1 (by simp [F9]) (by simp [F9]) ?_;refine AW.loopF (α:=Int) (fun n v11=>Aan.L1 k v4 n v11=some v6) (fun v11=>[(3,AV.ptr 0 0),(40,Lz v4),(41,Iz (v4.length : Int)),(42,Iz v11)]) (fun v11=>[(0,.cells [Lz v3,Lz v4,Iz v5])]) 1 k (0) hF (by simp [F9]) (by simp [F9]) (by simp) ?_;rintro (_|n1) v11 hF K213 hK213
      ·try dsimp only at hF
       rw [Aan.L1] at hF; cases hF
      try dsimp only at hF
      rw [Aan.L1] at hF;refine SQ [] [none] fun _ _ g r=>?_;try simp [F9]
      and_intros <;> first | exact GK g | apply r | omega | (simp [maxLen,F9] <;> omega)
      refine WK [(3,AV.ptr 0 0),(40,Lz v4),(41,Iz (v4.length : Int)),(42,Iz v11),(43,AV.bool (decide (v11<(v4.length : Int))))] [(0,.cells [Lz v3,Lz v4,Iz v5])] 1 (by simp [F9]) (by simp [F9]) ?_;refine AW.seq fun K215 hK215=>?_;by_cases h10 : v11<(v4.length : Int)
      ·replace hF:=AaX h10 hF;have h10_:=h10;try simp at h10_
       have F10:=A3 F9 h10 h10_;refine CT (by simp [F10] <;> omega) ?_;refine AW.skip ?_;refine hK215 _ _ _ ?_;refine AW.midF (α:=Unit) (fun _=>Aan.J2 k v11 (fun v11_=>Aan.L1 k v4 n1 v11_)=some v6) (fun _=>[(3,AV.ptr 0 0),(40,Lz v4),(41,Iz (v4.length : Int)),(42,Iz v11)]) (fun _=>[(0,.cells [Lz v3,Lz v4,Iz v5])]) 1 (fun K221 hK221=>?_) ?_
       ·refine AW.block ?_;refine SQ [] [none,none,none,none,none] fun _ _ g r=>?_;obtain ⟨v12,h11,h12,h13,hF⟩:=Aaa hF;have h13_:=Aao h13;try simp at h13_
        have h12_:=h12;try simp at h12_
        have F11:=A6 F10 h11 h12 h13 h13_ h12_;try simp [F11]
        and_intros <;> first | exact GK g | apply r | omega | (simp [maxLen,F11] <;> omega)
        refine WK [(3,AV.ptr 0 0),(6,Iz v11),(7,Iz v12),(40,Lz v4),(41,Iz (v4.length : Int)),(42,Iz v11)] [(0,.cells [Lz v3,Lz v4,Iz v5])] 1 (by simp [F11]) (by simp [F11]) ?_;refine SQ [] [none,none,none,none,some (50,false),some (50,false),some (50,false),some (53,true),some (53,true),some (53,true),some (53,true),some (53,true),some (53,true),some (53,true),some (53,true),some (50,false),none] fun _ _ g r=>?_;try simp [F11]
        and_intros
        try any_goals first | omega | (simp [maxLen,F11] <;> omega)
        obtain ⟨v13,h14,hF⟩:=AaO hF;refine AC (Abr k _ _ _ _ h14) (.cons (.same (by simp [F11])) (.cons (.same (by simp [F11])) (.cons (.same (by simp [F11])) .nil))) ?_;by_cases h15 : (!v13)=true
        ·replace hF:=AaX h15 hF;have h15_:=h15;try simp at h15_
         have F12:=A3 F11 h15 h15_;try simp [F12]
         and_intros <;> first | exact GK g | apply r | omega | (simp [maxLen,F12] <;> omega)
         refine WK [(3,AV.ptr 0 0),(40,Lz v4),(41,Iz (v4.length : Int)),(42,Iz v11),(63,AV.bool true)] [(0,.cells [Lz v3,Lz v4,Iz v5])] 1 (by simp [F12]) (by simp [F12]) ?_;refine CT (by simp [F12]) ?_;refine SQ [] [none] fun _ _ g r=>?_;try simp [F12]
         and_intros <;> first | exact GK g | apply r | omega | (simp [maxLen,F12] <;> omega)
         refine WK [(4,Iz 15)] [] 1 (by simp [F12]) (by simp [F12]) ?_;simp only [Option.some.injEq] at hF;subst hF;refine AW.ret (hQ _ _ _ ?_ (AaF ?_)).1
         ·simp [Try.f40,F12]
         ·simp [F12]
        ·replace hF:=AaY h15 hF;have h15_:=h15;try simp at h15_
         by_cases h16 : 0<v11
         ·replace hF:=AaX h16 hF;have h16_:=h16;try simp at h16_
          obtain ⟨v14,h17,h18,h19,hF⟩:=Aaa hF;have h19_:=Aao h19;try simp at h19_
          have h18_:=h18;try simp at h18_
          have F13:=A9 F11 h15 h15_ h16 h16_ h17 h18 h19 (A2 h19_ h18_);try simp [F13]
          and_intros <;> first | exact GK g | apply r | omega | (simp [maxLen,F13] <;> omega)
          refine WK [(3,AV.ptr 0 0),(40,Lz v4),(41,Iz (v4.length : Int)),(42,Iz v11),(63,AV.bool (decide (v14<v12)))] [(0,.cells [Lz v3,Lz v4,Iz v5])] 1 (by simp [F13]) (by simp [F13]) ?_;by_cases h20 : v14<v12
          ·replace hF:=AaX h20 hF;have h20_:=h20;try simp at h20_
           have F14:=A3 F13 h20 h20_;refine CT (by simp [F14] <;> omega) ?_;refine SQ [] [none] fun _ _ g r=>?_;try simp [F14]
           and_intros <;> first | exact GK g | apply r | omega | (simp [maxLen,F14] <;> omega)
           refine WK [(4,Iz 15)] [] 1 (by simp [F14]) (by simp [F14]) ?_;simp only [Option.some.injEq] at hF;subst hF;refine AW.ret (hQ _ _ _ ?_ (AaF ?_)).1
           ·simp [Try.f40,F14]
           ·simp [F14]
          ·replace hF:=AaY h20 hF;have h20_:=h20;try simp at h20_
           have F15:=A3 F13 h20 h20_;refine CF (by simp [F15] <;> omega) ?_;refine AW.skip ?_;refine hK221 _ _ _ ?_;exact JN (()) hF (by simp [F15]) (by simp [F15])
         ·replace hF:=AaY h16 hF;have h16_:=h16;try simp at h16_
          have F16:=A5 F11 h15 h15_ h16 h16_;try simp [F16]
          and_intros <;> first | exact GK g | apply r | omega | (simp [maxLen,F16] <;> omega)
          refine WK [(3,AV.ptr 0 0),(40,Lz v4),(41,Iz (v4.length : Int)),(42,Iz v11),(63,AV.bool false)] [(0,.cells [Lz v3,Lz v4,Iz v5])] 1 (by simp [F16]) (by simp [F16]) ?_;refine CF (by simp [F16]) ?_;refine AW.skip ?_;refine hK221 _ _ _ ?_;exact JN (()) hF (by simp [F16]) (by simp [F16])
       ·rintro ⟨⟩ hF
        try dsimp only at hF
        unfold Aan.J2 at hF;refine RG [] [none,none] fun _ _ g r=>?_;try simp [F10]
        and_intros <;> first | exact GK g | apply r | omega | (simp [maxLen,F10] <;> omega)
        refine hK213 _ _ _ ?_;exact NX (k':=n1) (IntKind.wrap .i64 (v11+1)) hF (by simp [F10]) (by simp [F10])
      ·replace hF:=AaY h10 hF;have h10_:=h10;try simp at h10_
       have F17:=A3 F9 h10 h10_;refine CF (by simp [F17] <;> omega) ?_;refine AW.exit ?_;try simp
       refine hK179 _ _ _ ?_;refine SQ [] [none] fun _ _ g r=>?_;try simp [F17]
       and_intros <;> first | exact GK g | apply r | omega | (simp [maxLen,F17] <;> omega)
       refine WK [(4,Iz 0)] [] 1 (by simp [F17]) (by simp [F17]) ?_;simp only [Option.some.injEq] at hF;subst hF;refine AW.ret (hQ _ _ _ ?_ (AaF ?_)).1
       ·simp [Try.f40,F17]
       ·simp [F17]
theorem AcV (k : Nat) (v0 : Int) (v1 : Int) (hF : Ab3 k v0=some v1) :
 Aa9 Try.prog 19 [AV.int .i64 v0] [] (AV.int .i64 v1) []:=by
 unfold Ab3 at hF;refine EN Try.func19 ?_;intro c0 w0 Q h0 hQ
 refine WK [(0,Iz v0)] [] 0 (by simp) (by simp) ?_;refine SQ [] [none] fun _ _ g r=>?_;try simp
 and_intros <;> first | exact GK g | apply r | omega | (simp [maxLen] <;> omega)
 refine WK [(0,Iz v0)] [] 0 (by simp) (by simp) ?_;refine SQ [] [none,none,none,none] fun _ _ g r=>?_;try simp
 and_intros <;> first | exact GK g | apply r | omega | (simp [maxLen] <;> omega)
 refine WK [(2,Iz (IntKind.wrap .i64 (2+IntKind.wrap .i64 (2*v0))))] [] 0 (by simp) (by simp) ?_;simp only [Option.some.injEq] at hF;subst hF;refine AW.ret (hQ _ _ _ ?_ (AaF ?_)).1
 ·simp [Try.f19]
 ·simp
theorem Ac1 (k : Nat) (v0 : (List AaA)) (v1 : (List AaA)) (hF : AbQ k v0=some v1) :
 Aa9 Try.prog 102 [Q2 v0] [] (AV.slc 0 0 3 v1.length false) [some (.grow (AaL (List.map AaA.av v1)))]:=by
 unfold AbQ at hF;obtain ⟨h1,hF⟩:=AaZ hF;simp only [Option.some.injEq] at hF;subst hF;refine EN Try.func102 ?_;intro c0 w0 Q h0 hQ
 refine WK [(0,Q2 v0)] [] 0 (by simp) (by simp) ?_;refine SQ [] [none] fun _ _ g r=>?_;simp
 refine ⟨g _ (by kernel_rfl),r _ _ _ ?_⟩;refine WK [(0,Q2 v0)] [] 0 (by simp) (by simp) ?_;refine AW.nilSplit (fl:=false) (xs:=List.map AaA.av v0) 0 (by decide) (by simp) (fun hx=>?_) ?_
 ·simp at hx
  subst hx;refine WK [(0,AV.lst true false [])] [] 0 (by simp) (by simp) ?_;refine AW.seq fun K2 hK2=>?_;refine SQ [] [none,none] fun _ _ g r=>?_;simp
  refine ⟨g _ (by kernel_rfl),r _ _ _ ?_⟩;refine WK [(4,AV.bool true)] [] 0 (by simp) (by simp) ?_;refine CT (by simp) ?_;refine SQ [] [none] fun _ _ g r=>?_;simp
  refine ⟨g _ (by kernel_rfl),r _ _ _ ?_⟩;refine WK [(2,AV.lst true true [])] [] 0 (by simp) (by simp) ?_;refine AW.own' 2 3 true (by simp) (by decide) ?_;refine AW.ret (hQ _ _ _ ?_ (AaF ?_)).1
  ·simp [Try.f102]
  ·simp
 ·refine WK [(0,AV.nn (Q2 v0))] [] 0 (by simp) (by simp) ?_;refine AW.seq fun K2 hK2=>?_;refine SQ [] [none,none] fun _ _ g r=>?_;simp
  refine ⟨g _ (by kernel_rfl),r _ _ _ ?_⟩;refine WK [(0,AV.nn (Q2 v0)),(4,AV.bool false)] [] 0 (by simp) (by simp) ?_;refine AW.flg [(0,Q2 v0)] [] ⟨.nn,trivial⟩ trivial (by decide) ?_;refine WK [(0,Q2 v0),(4,AV.bool false)] [] 0 (by simp) (by simp) ?_;refine CF (by simp) ?_;refine AW.skip ?_;refine hK2 _ _ _ ?_;refine SQ [7] [none,none,none,none] fun _ _ g r=>?_;simp
  and_intros <;> first | exact GK g | apply r | omega | (unfold maxLen; omega)
  refine WK [(2,AV.slc 0 0 3 v0.length false)] [(0,.grow (AaL (List.map AaA.av v0)))] 1 (by simp) (by simp) ?_;refine AW.ret (hQ _ _ _ ?_ (AaF ?_)).1
  ·simp [Try.f102]
  ·simp
theorem AgF (k : Nat) (v0 : Int) (v1 : (List AaA)) (v2 : (List Int)) (v3 : Int) (v4 : (List AaA)) (v5 : (List Int)) (hF : Ac9 k v0 v1 v2=some (v3,v4,v5)) :
 Aa9 Try.prog 75 [AV.agg [AV.int .i64 v0,Q2 v1,AV.lst false false (List.map (AV.int .i64) v2)]] [] (AV.agg [AV.int .i64 v3,AV.slc 0 0 3 v4.length false,AV.slc 1 0 1 v5.length false]) [some (.grow (AaL (List.map AaA.av v4))),some (Gi v5)]:=by
 unfold Ac9 at hF;refine EN Try.func75 ?_;intro c0 w0 Q h0 hQ
 refine WK [(0,AV.agg [Iz v0,Q2 v1,Lz v2])] [] 0 (by simp) (by simp) ?_;refine SQ [] [none,none] fun _ _ g r=>?_;try simp
 and_intros <;> first | exact GK g | apply r | omega | (simp [maxLen] <;> omega)
 refine WK [(1,AV.ptr 0 0),(2,AV.ptr 1 0)] [(0,.cells [Iz v0,Q2 v1,Lz v2]),(1,.cells [Iz 0,AV.lst true true (List.map AaA.av ([] : List AaA)),AV.lst true true (List.map (AV.int .i64) ([] : List Int))])] 2 (by simp) (by simp) ?_;refine SQ [] [none,none,none,none,none,none,none,none,none,none] fun _ _ g r=>?_;try simp
 and_intros
 try any_goals first | omega | (simp [maxLen] <;> omega)
 obtain ⟨v6,h1,hF⟩:=AaO hF;refine AC (Ac1 k _ _ h1) (.cons (.same (by simp)) .nil) ?_;try simp
 and_intros
 try any_goals first | omega | (simp [maxLen] <;> omega)
 obtain ⟨v7,h2,hF⟩:=AaO hF;refine AC (AcN k _ _ h2) (.cons (.same (by simp)) .nil) ?_;try simp
 and_intros <;> first | exact GK g | apply r | omega | (simp [maxLen] <;> omega)
 refine RM h0 [(0,2),(1,3),(2,1)] [(2,AV.ptr 2 0)] [(0,.grow (AaL (List.map AaA.av v6))),(1,Gi v7),(2,.cells [Iz v0,AV.slc 0 0 3 v6.length false,AV.slc 1 0 1 v7.length false])] 3 (by simp) (by simp) ?_;simp only [Option.some.injEq,Prod.mk.injEq] at hF;obtain ⟨e0,e1,e2⟩:=hF;subst e0 e1 e2;refine AW.ret (hQ _ _ _ ?_ (AaF ?_)).1
 ·simp [Try.f75]
 ·simp
end Go.TF
