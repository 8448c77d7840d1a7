import Derived.Test.YtelffnegemdicaaFzWal28
import Derived.Test.YtelffnegemdicaaFzWal29
import Derived.Test.YtelffnegemdicaaFzWal32
set_option linter.unusedVariables false
set_option linter.unusedSimpArgs false
set_option maxRecDepth 100000
set_option maxHeartbeats 4000000
namespace Go.TF
open Go Go.Abs Go.Proofs Go.Proofs.YtelffnegemdicaaFwT
theorem AeU (k : Nat) (v0 : Int) (v1 : Int) (v2 : Int) (v3 : Int) (v4 : Bool) (hF : AcX k v0 v1 v2 v3=some v4) :
 Aa9 Try.prog 77 [AV.agg [AV.int .i64 v0,AV.int .i64 v1,AV.int .i64 v2],AV.ptr 0 0] [.cells [AV.int .i64 v3]] (AV.bool v4) [some (.cells [AV.int .i64 v3])]:=by
 unfold AcX at hF;refine EN Try.func77 ?_;intro c0 w0 Q h0 hQ
 refine WK [(0,AV.agg [Iz v0,Iz v1,Iz v2]),(1,AV.ptr 0 0)] [(0,.cells [Iz v3])] 1 (by simp) (by simp) ?_;refine SQ [] [none,none] fun _ _ g r=>?_;try simp
 and_intros <;> first | exact GK g | apply r | omega | (simp [maxLen] <;> omega)
 refine WK [(1,AV.ptr 0 0),(2,AV.ptr 1 0)] [(0,.cells [Iz v3]),(1,.cells [Iz v0,Iz v1,Iz v2])] 2 (by simp) (by simp) ?_;refine SQ [] [none,none,none,none,none] fun _ _ g r=>?_;try simp
 and_intros <;> first | exact GK g | apply r | omega | (simp [maxLen] <;> omega)
 refine WK [(3,AV.bool (decide (v2<v3)))] [(0,.cells [Iz v3])] 2 (by simp) (by simp) ?_;simp only [Option.some.injEq] at hF;subst hF;refine AW.ret (hQ _ _ _ ?_ (AaF ?_)).1
 ·simp [Try.f77]
 ·simp
theorem AcA (k : Nat) (v0 : (List AaA)) (v1 : Int) (v2 : Int) (hF : AaR k v0 v1=some v2) :
 Aa9 Try.prog 103 [Q2 v0,AV.fn 77 [AV.ptr 0 0]] [.cells [AV.int .i64 v1]] (AV.int .i64 v2) [some (.cells [AV.int .i64 v1])]:=by
 unfold AaR at hF;refine EN Try.func103 ?_;intro c0 w0 Q h0 hQ
 refine WK [(0,Q2 v0),(1,AV.fn 77 [AV.ptr 0 0])] [(0,.cells [Iz v1])] 1 (by simp) (by simp) ?_;refine SQ [] [none] fun _ _ g r=>?_;try simp
 and_intros <;> first | exact GK g | apply r | omega | (simp [maxLen] <;> omega)
 refine WK [(0,Q2 v0),(1,AV.fn 77 [AV.ptr 0 0])] [(0,.cells [Iz v1])] 1 (by simp) (by simp) ?_;refine AW.seq fun K131 hK131=>?_;refine SQ [] [none,none,none] fun _ _ g r=>?_;try simp
 and_intros <;> first | exact GK g | apply r | omega | (simp [maxLen] <;> omega)
 refine WK [(0,Q2 v0),(1,AV.fn 77 [AV.ptr 0 0]),(7,Iz (v0.length : Int)),(8,Iz 0)] [(0,.cells [Iz v1])] 1 (by simp) (by simp) ?_;refine AW.block ?_;refine AW.loopF (α:=Int) (fun n v3=>AaR.L1 k v0 v1 n v3=some v2) (fun v3=>[(0,Q2 v0),(1,AV.fn 77 [AV.ptr 0 0]),(7,Iz (v0.length : Int)),(8,Iz v3)]) (fun v3=>[(0,.cells [Iz v1])]) 1 k (0) hF (by simp) (by simp) (by simp) ?_;rintro (_|n1) v3 hF K163 hK163
 ·try dsimp only at hF
  rw [AaR.L1] at hF; cases hF
 try dsimp only at hF
 rw [AaR.L1] at hF;refine SQ [] [none] fun _ _ g r=>?_;try simp
 and_intros <;> first | exact GK g | apply r | omega | (simp [maxLen] <;> omega)
 refine WK [(0,Q2 v0),(1,AV.fn 77 [AV.ptr 0 0]),(7,Iz (v0.length : Int)),(8,Iz v3),(9,AV.bool (decide (v3<(v0.length : Int))))] [(0,.cells [Iz v1])] 1 (by simp) (by simp) ?_;refine AW.seq fun K165 hK165=>?_;by_cases h1 : v3<(v0.length : Int)
 ·replace hF:=AaX h1 hF;have h1_:=h1;try simp at h1_
  refine CT (by simp [h1,h1_] <;> omega) ?_;refine AW.skip ?_;refine hK165 _ _ _ ?_;refine AW.seq fun K169 hK169=>?_;refine AW.block ?_;refine SQ [] [none,none] fun _ _ g r=>?_;try simp [h1,h1_]
  and_intros <;> first | exact GK g | apply r | omega | (simp [h1,h1_,maxLen] <;> omega)
  refine WK [(0,Q2 v0),(1,AV.fn 77 [AV.ptr 0 0]),(5,Iz v3),(7,Iz (v0.length : Int)),(8,Iz v3)] [(0,.cells [Iz v1])] 1 (by simp [h1,h1_]) (by simp [h1,h1_]) ?_;refine SQ [] [none,none,none,none,none,none] fun _ _ g r=>?_;obtain ⟨v4,h2,h3,h4,hF⟩:=Aaa hF;have h4_:=Aao h4;try simp at h4_
  have h3_:=h3;try simp at h3_
  have F1:=A7 h1 h1_ h2 h3 h4 h4_ h3_;try simp [F1]
  and_intros
  try any_goals first | omega | (simp [maxLen,F1] <;> omega)
  obtain ⟨v5,h5,hF⟩:=AaO hF;refine Aa1 (AeU k _ _ _ _ _ h5) (by simp) [0] [] [] rfl (.cons (.same (by simp [F1])) (.cons (.same (by simp [F1])) .nil)) (by simp [F1]) (by decide) (by simp) (by simp) (.inl rfl) (by simp) (by simp) ?_;try simp [F1]
  and_intros <;> first | exact GK g | apply r | omega | (simp [maxLen,F1] <;> omega)
  refine WK [(0,Q2 v0),(1,AV.fn 77 [AV.ptr 0 0]),(5,Iz v3),(7,Iz (v0.length : Int)),(8,Iz v3),(16,AV.bool v5)] [(0,.cells [Iz v1])] 1 (by simp [F1]) (by simp [F1]) ?_;by_cases h6 : v5=true
  ·replace hF:=AaX h6 hF;have h6_:=h6;try simp at h6_
   have F2:=A3 F1 h6 h6_;refine CT (by simp [F2] <;> omega) ?_;refine SQ [] [none,none] fun _ _ g r=>?_;try simp [F2]
   and_intros <;> first | exact GK g | apply r | omega | (simp [maxLen,F2] <;> omega)
   refine WK [(4,Iz v3)] [(0,.cells [Iz v1])] 1 (by simp [F2]) (by simp [F2]) ?_;simp only [Option.some.injEq] at hF;subst hF;refine AW.ret (hQ _ _ _ ?_ (AaF ?_)).1
   ·simp [Try.f103,F2]
   ·simp [F2]
  ·replace hF:=AaY h6 hF;have h6_:=h6;try simp at h6_
   have F3:=A3 F1 h6 h6_;refine CF (by simp [F3] <;> omega) ?_;refine AW.skip ?_;refine hK169 _ _ _ ?_;refine RG [] [none,none] fun _ _ g r=>?_;try simp [F3]
   and_intros <;> first | exact GK g | apply r | omega | (simp [maxLen,F3] <;> omega)
   refine hK163 _ _ _ ?_;exact NX (k':=n1) (IntKind.wrap .i64 (v3+1)) hF (by simp [F3]) (by simp [F3])
 ·replace hF:=AaY h1 hF;have h1_:=h1;try simp at h1_
  refine CF (by simp [h1,h1_] <;> omega) ?_;refine AW.exit ?_;try simp
  refine hK131 _ _ _ ?_;refine SQ [] [none] fun _ _ g r=>?_;try simp [h1,h1_]
  and_intros <;> first | exact GK g | apply r | omega | (simp [h1,h1_,maxLen] <;> omega)
  refine WK [(4,Iz (-1))] [(0,.cells [Iz v1])] 1 (by simp [h1,h1_]) (by simp [h1,h1_]) ?_;simp only [Option.some.injEq] at hF;subst hF;refine AW.ret (hQ _ _ _ ?_ (AaF ?_)).1
  ·simp [Try.f103,h1,h1_]
  ·simp [h1,h1_]
theorem Ab2 (k : Nat) (v0 : (List AaA)) (v1 : Int) (v2 : (List AaA)) (hF : AaI k v0 v1=some v2) :
 Aa9 Try.prog 76 [AV.slc 0 0 3 v0.length false,AV.fn 77 [AV.ptr 1 0]] [.grow (AaL (List.map AaA.av v0)),.cells [AV.int .i64 v1]] (Q2 v2) [none,some (.cells [AV.int .i64 v1])]:=by
 unfold AaI at hF;refine EN Try.func76 ?_;intro c0 w0 Q h0 hQ
 refine WK [(0,AV.slc 0 0 3 v0.length false),(1,AV.fn 77 [AV.ptr 1 0])] [(0,.grow (AaL (List.map AaA.av v0))),(1,.cells [Iz v1])] 2 (by simp) (by simp) ?_;refine SQ [] [none] fun _ _ g r=>?_;try simp
 and_intros <;> first | exact GK g | apply r | omega | (simp [maxLen] <;> omega)
 refine WK [(0,AV.slc 0 0 3 v0.length false),(1,AV.fn 77 [AV.ptr 1 0])] [(0,.grow (AaL (List.map AaA.av v0))),(1,.cells [Iz v1])] 2 (by simp) (by simp) ?_;refine SQ [] [none,none,none,none] fun _ _ g r=>?_;try simp
 and_intros
 try any_goals first | omega | (simp [maxLen] <;> omega)
 obtain ⟨v3,h1,hF⟩:=AaO hF;refine Aa1 (AcA k _ _ _ h1) (by simp) [1] [0] [] rfl (.cons (Coe.l (o := .grow (AaL (List.map AaA.av v0))) (by simp) rfl (by simp) (by simp [AdK]) (by simp) (by simp)) (.cons (.same (by simp)) .nil)) (by simp) (by decide) (by simp) (by simp) (.inr ⟨by simp,by simp⟩) (by simp) (by simp) ?_;try simp
 and_intros <;> first | exact GK g | apply r | omega | (simp [maxLen] <;> omega)
 refine WK [(0,AV.slc 0 0 3 v0.length false),(1,AV.fn 77 [AV.ptr 1 0]),(5,Iz v3)] [(0,.grow (AaL (List.map AaA.av v0))),(1,.cells [Iz v1])] 2 (by simp) (by simp) ?_;refine AW.seq fun K123 hK123=>?_;refine SQ [] [none,none] fun _ _ g r=>?_;try simp
 and_intros <;> first | exact GK g | apply r | omega | (simp [maxLen] <;> omega)
 refine WK [(0,AV.slc 0 0 3 v0.length false),(1,AV.fn 77 [AV.ptr 1 0]),(5,Iz v3),(12,AV.bool (v3==(-1)))] [(0,.grow (AaL (List.map AaA.av v0))),(1,.cells [Iz v1])] 2 (by simp) (by simp) ?_;by_cases h2 : v3=(-1)
 ·replace hF:=AaX h2 hF;have h2q : v3=(-1):=h2;have h2_:=Abx h2q;have h2__:=Abw h2q;have F1:=A3 h2_ h2__ h2q;refine CT (by simp [F1] <;> omega) ?_;refine SQ [] [none,none] fun _ _ g r=>?_;try simp [F1]
  and_intros <;> first | exact GK g | apply r | omega | (simp [maxLen,F1] <;> omega)
  refine WK [(4,AV.slc 0 0 3 v0.length false)] [(0,.grow (AaL (List.map AaA.av v0))),(1,.cells [Iz v1])] 2 (by simp [F1]) (by simp [F1]) ?_;refine WK [(4,AV.slc 0 0 3 v0.length false)] [(0,.grow (AaL (List.map AaA.av v0))),(1,.cells [Iz v1])] 2 (by simp [F1]) (by simp [F1]) ?_;refine AW.frz 0 (o := .grow (AaL (List.map AaA.av v0))) (by simp [F1]) rfl [(4,Q2 v0)] [] ⟨(.l (by simp) (by simp) (by simp) (by simp)),trivial⟩ trivial ?_;simp only [Option.some.injEq] at hF;subst hF;refine AW.ret (hQ _ _ _ ?_ (AaF ?_)).1
  ·simp [Try.f76,F1]
  ·simp [F1]
 ·replace hF:=AaY h2 hF;have h2_:=Abo h2;have h2__:=Abt h2;have F2:=A3 h2 h2_ h2__;refine CF (by simp [F2] <;> omega) ?_;refine AW.skip ?_;refine hK123 _ _ _ ?_;refine AW.seq fun K180 hK180=>?_;refine SQ [] [none,none,none] fun _ _ g r=>?_;try simp [F2]
  and_intros <;> first | exact GK g | apply r | omega | (simp [maxLen,F2] <;> omega)
  refine WK [(0,AV.slc 0 0 3 v0.length false),(1,AV.fn 77 [AV.ptr 1 0]),(5,Iz v3),(6,Iz (IntKind.wrap .i64 (v3+1)))] [(0,.grow (AaL (List.map AaA.av v0))),(1,.cells [Iz v1])] 2 (by simp [F2]) (by simp [F2]) ?_;refine AW.block ?_;refine AW.loopF (α:=(Int×Int×(List AaA))) (fun n (v4,v5,v6)=>AaI.L1 k v1 n v4 v5 v6=some v2) (fun (v4,v5,v6)=>[(0,AV.slc 0 0 3 v6.length false),(1,AV.fn 77 [AV.ptr 1 0]),(5,Iz v4),(6,Iz v5)]) (fun (v4,v5,v6)=>[(0,.grow (AaL (List.map AaA.av v6))),(1,.cells [Iz v1])]) 2 k ((v3,IntKind.wrap .i64 (v3+1),v0)) hF (by simp [F2]) (by simp [F2]) (by simp) ?_;rintro (_|n1) ⟨v4,v5,v6⟩ hF K221 hK221
  ·try dsimp only at hF
   rw [AaI.L1] at hF; cases hF
  try dsimp only at hF
  rw [AaI.L1] at hF;refine AW.seq fun K223 hK223=>?_;refine SQ [] [none,none,none,none] fun _ _ g r=>?_;try simp [F2]
  and_intros <;> first | exact GK g | apply r | omega | (simp [maxLen,F2] <;> omega)
  refine WK [(0,AV.slc 0 0 3 v6.length false),(1,AV.fn 77 [AV.ptr 1 0]),(5,Iz v4),(6,Iz v5),(19,AV.bool (decide (v5<(v6.length : Int))))] [(0,.grow (AaL (List.map AaA.av v6))),(1,.cells [Iz v1])] 2 (by simp [F2]) (by simp [F2]) ?_;by_cases h3 : v5<(v6.length : Int)
  ·replace hF:=AaX h3 hF;have h3_:=h3;try simp at h3_
   have F3:=A3 F2 h3 h3_;refine CT (by simp [F3] <;> omega) ?_;refine AW.skip ?_;refine hK223 _ _ _ ?_;refine AW.midF (α:=((List AaA)×Int)) (fun (v7,v8)=>AaI.J2 k v5 (fun v4_ v5_ v6_=>AaI.L1 k v1 n1 v4_ v5_ v6_) v7 v8=some v2) (fun (v7,v8)=>[(0,AV.slc 0 0 3 v7.length false),(1,AV.fn 77 [AV.ptr 1 0]),(5,Iz v8),(6,Iz v5)]) (fun (v7,v8)=>[(0,.grow (AaL (List.map AaA.av v7))),(1,.cells [Iz v1])]) 2 (fun K230 hK230=>?_) ?_
   ·refine AW.block ?_;refine SQ [] [none,none,none,none,none,none] fun _ _ g r=>?_;obtain ⟨v9,h4,h5,h6,hF⟩:=Aaa hF;have h6_:=Aao h6;try simp at h6_
    have h5_:=h5;try simp at h5_
    have h7:=Aek (F:=AaA.av) (es:=3) (fun _=>rfl) (by decide) h5;have h8:=Ab5 (F:=AaA.av) (es:=3) (fun _=>rfl) v6;have h9:=AhY (F:=AaA.av) (es:=3) (fun _=>rfl) h6 0 (by decide);try simp only [Nat.add_zero] at h9
    have F4:=A9 F3 h4 h5 h6 h6_ h5_ h7 h8 h9;try simp [F4]
    and_intros <;> first | exact GK g | apply r | omega | (simp [maxLen,F4] <;> omega)
    refine WK [(0,AV.slc 0 0 3 v6.length false),(1,AV.fn 77 [AV.ptr 1 0]),(5,Iz v4),(6,Iz v5),(7,AV.ptr 2 0)] [(0,.grow (AaL (List.map AaA.av v6))),(1,.cells [Iz v1]),(2,.cells [Iz v9.From,Iz v9.To,Iz v9.Level])] 3 (by simp [F4]) (by simp [F4]) ?_;refine SQ [] [none,none,none,none] fun _ _ g r=>?_;try simp [F4]
    and_intros
    try any_goals first | omega | (simp [maxLen,F4] <;> omega)
    obtain ⟨v10,h10,hF⟩:=AaO hF;refine Aa1 (AeU k _ _ _ _ _ h10) (by simp) [1] [] [] rfl (.cons (.same (by simp [F4])) (.cons (.same (by simp [F4])) .nil)) (by simp [F4]) (by decide) (by simp) (by simp) (.inl rfl) (by simp) (by simp) ?_;try simp [F4]
    and_intros <;> first | exact GK g | apply r | omega | (simp [maxLen,F4] <;> omega)
    refine WK [(0,AV.slc 0 0 3 v6.length false),(1,AV.fn 77 [AV.ptr 1 0]),(5,Iz v4),(6,Iz v5),(7,AV.ptr 2 0),(29,AV.bool (!v10))] [(0,.grow (AaL (List.map AaA.av v6))),(1,.cells [Iz v1]),(2,.cells [Iz v9.From,Iz v9.To,Iz v9.Level])] 3 (by simp [F4]) (by simp [F4]) ?_;by_cases h11 : (!v10)=true
    ·replace hF:=AaX h11 hF;have h11_:=h11;try simp at h11_
     have F5:=A3 F4 h11 h11_;refine CT (by simp [F5] <;> omega) ?_;refine SQ [] [none,none,none,none,none] fun _ _ g r=>?_;obtain ⟨v11,h12,h13,h14,hF⟩:=Aaa hF;have h14_:=Aao h14;try simp at h14_
     have h13_:=h13;try simp at h13_
     have h15:=Aek (F:=AaA.av) (es:=3) (fun _=>rfl) (by decide) h13;have h16:=Ab5 (F:=AaA.av) (es:=3) (fun _=>rfl) v6;have h17:=AhY (F:=AaA.av) (es:=3) (fun _=>rfl) h14 0 (by decide);try simp only [Nat.add_zero] at h17
     have h18:=AnF (F:=AaA.av) (es:=3) (x':=v9) (d:=0) (zs:=[Iz v9.From,Iz v9.To,Iz v9.Level]) (fun _=>rfl) h14 (by simp) (by simp);try simp only [Nat.add_zero] at h18
     have h18_:=h18;try simp at h18_
     have h19:=Alb (x':=v9) h14;have F6:=A9 F5 h12 h13 h14 h14_ h13_ h15 h16 (A4 h17 h18 h18_ h19);try simp [F6]
     and_intros <;> first | exact GK g | apply r | omega | (simp [maxLen,F6] <;> omega)
     refine WK [(0,AV.slc 0 0 3 ((v6.set (v4).toNat v9).length) false),(1,AV.fn 77 [AV.ptr 1 0]),(5,Iz v4),(6,Iz v5)] [(0,.grow (AaL (List.map AaA.av (v6.set (v4).toNat v9)))),(1,.cells [Iz v1])] 3 (by simp [F6]) (by simp [F6]) ?_;refine RG [] [none,none,none] fun _ _ g r=>?_;try simp [F6]
     and_intros <;> first | exact GK g | apply r | omega | (simp [maxLen,F6] <;> omega)
     refine hK230 _ _ _ ?_;refine Can.weak [(0,AV.slc 0 0 3 ((v6.set (v4).toNat v9).length) false),(1,AV.fn 77 [AV.ptr 1 0]),(5,Iz (IntKind.wrap .i64 (v4+1))),(6,Iz v5)] [(0,.grow (AaL (List.map AaA.av (v6.set (v4).toNat v9)))),(1,.cells [Iz v1])] 3 (by simp [F6]) (by simp [F6]) (by simp) ?_;refine Can.ren (m:=2) h0 [(0,0),(1,1)] [(0,AV.slc 0 0 3 ((v6.set (v4).toNat v9).length) false),(1,AV.fn 77 [AV.ptr 1 0]),(5,Iz (IntKind.wrap .i64 (v4+1))),(6,Iz v5)] [(0,.grow (AaL (List.map AaA.av (v6.set (v4).toNat v9)))),(1,.cells [Iz v1])] 2 (by decide) (by decide) (by decide) rfl (by simp [F6]) (by simp [F6]) ?_;exact JN ((v6.set (v4).toNat v9,IntKind.wrap .i64 (v4+1))) hF (by simp [F6]) (by simp [F6])
    ·replace hF:=AaY h11 hF;have h11_:=h11;try simp at h11_
     have F7:=A3 F4 h11 h11_;refine CF (by simp [F7] <;> omega) ?_;refine AW.skip ?_;refine hK230 _ _ _ ?_;refine Can.ren (m:=2) h0 [(0,0),(1,1)] [(0,AV.slc 0 0 3 v6.length false),(1,AV.fn 77 [AV.ptr 1 0]),(5,Iz v4),(6,Iz v5)] [(0,.grow (AaL (List.map AaA.av v6))),(1,.cells [Iz v1])] 2 (by decide) (by decide) (by decide) rfl (by simp [F7]) (by simp [F7]) ?_;exact JN ((v6,v4)) hF (by simp [F7]) (by simp [F7])
   ·rintro ⟨v7,v8⟩ hF
    try dsimp only at hF
    unfold AaI.J2 at hF;refine RG [] [none,none,none] fun _ _ g r=>?_;try simp [F3]
    and_intros <;> first | exact GK g | apply r | omega | (simp [maxLen,F3] <;> omega)
    refine hK221 _ _ _ ?_;exact NX (k':=n1) ((v8,IntKind.wrap .i64 (v5+1),v7)) hF (by simp [F3]) (by simp [F3])
  ·replace hF:=AaY h3 hF;have h3_:=h3;try simp at h3_
   have F8:=A3 F2 h3 h3_;refine CF (by simp [F8] <;> omega) ?_;refine AW.exit ?_;try simp
   refine hK180 _ _ _ ?_;refine SQ [] [none,none,none,none] fun _ _ g r=>?_;obtain ⟨⟨h20,h21⟩,hF⟩:=AaZ hF;have h20_:=h20;try simp at h20_
   have h21_:=h21;try simp at h21_
   obtain ⟨⟨h24,h22⟩,hF⟩:=AaZ hF;have h24n:=AcR h24;have h24f:=Aek (F:=AaA.av) (es:=3) (fun _=>rfl) (by decide) h24;have h23:=AkP (F:=AaA.av) (es:=3) (fun _=>rfl) v6 (AaA.mk 0 0 0) h22;obtain ⟨v12,h25,hF⟩:=AdV hF;rw [h25] at h23;have h23_:=h23;try simp at h23_
   have h25l : v12.length=v6.length:=by rw [← h25]; simp <;> omega
   have h25p : 0<v12.length:=by omega
   have h25n:=AcR h25p;have h25f:=Aek (F:=AaA.av) (es:=3) (fun _=>rfl) (by decide) h25p;have F9:=A9 F8 h20 h21 h20_ h21_ h23 h23_ h24n (A7 h24f h24 h22 h25l h25p h25n h25f);try simp [F9]
   and_intros <;> first | exact GK g | apply r | omega | (simp [maxLen,F9] <;> omega)
   refine WK [(0,AV.slc 0 0 3 v12.length false),(5,Iz v4)] [(0,.grow (AaL (List.map AaA.av v12))),(1,.cells [Iz v1])] 2 (by simp [F9]) (by simp [F9]) ?_;refine SQ [] [none,none,none,none] fun _ _ g r=>?_;obtain ⟨⟨h26,h27⟩,hF⟩:=AaZ hF;have h26_:=h26;try simp at h26_
   have h27_:=h27;try simp at h27_
   have F10:=A5 F9 h26 h27 h26_ h27_;try simp [F10]
   and_intros <;> first | exact GK g | apply r | omega | (simp [maxLen,F10] <;> omega)
   refine WK [(4,AV.slc 0 (0*3) 3 ((v4).toNat) false)] [(0,.grow (AaL (List.map AaA.av v12))),(1,.cells [Iz v1])] 2 (by simp [F10]) (by simp [F10]) ?_;refine WK [(4,AV.slc 0 (0*3) 3 ((v4).toNat) false)] [(0,.grow (AaL (List.map AaA.av v12))),(1,.cells [Iz v1])] 2 (by simp [F10]) (by simp [F10]) ?_;refine AW.frz 0 (o := .grow (AaL (List.map AaA.av v12))) (by simp [F10]) rfl [(4,Q2 (v12.take ((v4).toNat)))] [] ⟨(.lst (by simp) (by simp) (by simp [Agw,F10] <;> omega) (AhX (len:=(v4).toNat) (F:=AaA.av) (es:=3) (fun _=>rfl) v12 (by omega)) rfl),trivial⟩ trivial ?_;simp only [Option.some.injEq] at hF;subst hF;refine AW.ret (hQ _ _ _ ?_ (AaF ?_)).1
   ·simp [Try.f76,F10]
   ·simp [F10]
abbrev Adb  : Aas := .cells [Iz 0,AV.lst true true (List.map AaA.av ([] : List AaA)),AV.lst true true (List.map (AV.int .i64) ([] : List Int))]
theorem AeT (k : Nat) (v0 : Int) (v1 : (List AaA)) (v2 : (List Int)) (v3 : Int) (v4 : Int) (v5 : (List AaA)) (v6 : (List Int)) (hF : AcE k v0 v1 v2 v3=some (v4,v5,v6)) :
 Aa9 Try.prog 45 [AV.agg [AV.int .i64 v0,Q2 v1,AV.lst false false (List.map (AV.int .i64) v2)],AV.int .i64 v3] [] (AV.agg [AV.int .i64 v4,Q2 v5,AV.slc 0 0 1 v6.length false]) [some (Gi v6)]:=by
 unfold AcE at hF;refine EN Try.func45 ?_;intro c0 w0 Q h0 hQ
 refine WK [(0,AV.agg [Iz v0,Q2 v1,Lz v2]),(1,Iz v3)] [] 0 (by simp) (by simp) ?_;refine SQ [] [none,none,none] fun _ _ g r=>?_;try simp
 and_intros <;> first | exact GK g | apply r | omega | (simp [maxLen] <;> omega)
 refine WK [(2,AV.ptr 0 0),(3,AV.ptr 1 0),(4,AV.ptr 2 0)] [(0,.cells [Iz v0,Q2 v1,Lz v2]),(1,.cells [Iz v3]),(2,Adb )] 3 (by simp) (by simp) ?_;refine SQ [] [none,none,none,none] fun _ _ g r=>?_;try simp
 and_intros
 try any_goals first | omega | (simp [maxLen] <;> omega)
 obtain ⟨v7,v8,v9,h1,hF⟩:=Ad3 hF;refine AC (AgF k _ _ _ _ _ _ h1) (.cons (.same (by simp)) .nil) ?_;try simp
 and_intros <;> first | exact GK g | apply r | omega | (simp [maxLen] <;> omega)
 refine WK [(3,AV.ptr 1 0),(4,AV.ptr 2 0),(5,AV.ptr 5 0)] [(1,.cells [Iz v3]),(2,Adb ),(3,.grow (AaL (List.map AaA.av v8))),(4,Gi v9),(5,.cells [Iz v7,AV.slc 3 0 3 v8.length false,AV.slc 4 0 1 v9.length false])] 6 (by simp) (by simp) ?_;refine SQ [] [none,none,none,none,none,none] fun _ _ g r=>?_;try simp
 and_intros
 try any_goals first | omega | (simp [maxLen] <;> omega)
 obtain ⟨v10,h2,hF⟩:=AaO hF;refine Aa1 (Ab2 k _ _ _ h2) (by simp) [3,1] [] [3] rfl (.cons (.same (by simp)) (.cons (.same (by simp)) .nil)) (by simp) (by decide) (by simp) (by simp) (.inl rfl) (by simp) (by simp) ?_;try simp
 and_intros <;> first | exact GK g | apply r | omega | (simp [maxLen] <;> omega)
 refine WK [(4,AV.ptr 2 0),(5,AV.ptr 5 0)] [(2,Adb ),(4,Gi v9),(5,.cells [Iz v7,Q2 v10,AV.slc 4 0 1 v9.length false])] 6 (by simp) (by simp) ?_;refine SQ [] [none,none] fun _ _ g r=>?_;try simp
 and_intros <;> first | exact GK g | apply r | omega | (simp [maxLen] <;> omega)
 refine RM h0 [(0,4),(1,2)] [(4,AV.ptr 1 0)] [(0,Gi v9),(1,.cells [Iz v7,Q2 v10,AV.slc 0 0 1 v9.length false])] 2 (by simp) (by simp) ?_;simp only [Option.some.injEq,Prod.mk.injEq] at hF;obtain ⟨e0,e1,e2⟩:=hF;subst e0 e1 e2;refine AW.ret (hQ _ _ _ ?_ (AaF ?_)).1
 ·simp [Try.f45]
 ·simp
theorem Afx (k : Nat) (v0 : Int) (v1 : Int) (v2 : Int) (v3 : Int) (hF : AdU k v0 v1=some (v2,v3)) :
 Aa9 Try.prog 115 [AV.int .u64 v0,AV.int .u64 v1] [] (AV.tup [AV.int .u64 v2,AV.int .u64 v3]) []:=by
 unfold AdU at hF;refine EN Try.func115 ?_;intro c0 w0 Q h0 hQ
 refine WK [(0,AV.int .u64 v0),(1,AV.int .u64 v1)] [] 0 (by simp) (by simp) ?_;refine SQ [] [none,none] fun _ _ g r=>?_;try simp
 and_intros <;> first | exact GK g | apply r | omega | (simp [maxLen] <;> omega)
 refine WK [(0,AV.int .u64 v0),(1,AV.int .u64 v1)] [] 0 (by simp) (by simp) ?_;refine SQ [] [none,none,none] fun _ _ g r=>?_;try simp
 and_intros <;> first | exact GK g | apply r | omega | (simp [maxLen] <;> omega)
 refine WK [(0,AV.int .u64 v0),(1,AV.int .u64 v1),(6,AV.int .u64 (AbP .and .u64 v0 4294967295))] [] 0 (by simp) (by simp) ?_;refine SQ [] [none,none,none] fun _ _ g r=>?_;try simp
 and_intros <;> first | exact GK g | apply r | omega | (simp [maxLen] <;> omega)
 refine WK [(0,AV.int .u64 v0),(1,AV.int .u64 v1),(6,AV.int .u64 (AbP .and .u64 v0 4294967295)),(7,AV.int .u64 (Int.fdiv v0 (2 ^ (32))))] [] 0 (by simp) (by simp) ?_;refine SQ [] [none,none,none] fun _ _ g r=>?_;try simp
 and_intros <;> first | exact GK g | apply r | omega | (simp [maxLen] <;> omega)
 refine WK [(0,AV.int .u64 v0),(1,AV.int .u64 v1),(6,AV.int .u64 (AbP .and .u64 v0 4294967295)),(7,AV.int .u64 (Int.fdiv v0 (2 ^ (32)))),(8,AV.int .u64 (AbP .and .u64 v1 4294967295))] [] 0 (by simp) (by simp) ?_;refine SQ [] [none,none,none] fun _ _ g r=>?_;try simp
 and_intros <;> first | exact GK g | apply r | omega | (simp [maxLen] <;> omega)
 refine WK [(0,AV.int .u64 v0),(1,AV.int .u64 v1),(6,AV.int .u64 (AbP .and .u64 v0 4294967295)),(7,AV.int .u64 (Int.fdiv v0 (2 ^ (32)))),(8,AV.int .u64 (AbP .and .u64 v1 4294967295)),(9,AV.int .u64 (Int.fdiv v1 (2 ^ (32))))] [] 0 (by simp) (by simp) ?_;refine SQ [] [none,none,none,none] fun _ _ g r=>?_;try simp
 and_intros <;> first | exact GK g | apply r | omega | (simp [maxLen] <;> omega)
 refine WK [(0,AV.int .u64 v0),(1,AV.int .u64 v1),(6,AV.int .u64 (AbP .and .u64 v0 4294967295)),(7,AV.int .u64 (Int.fdiv v0 (2 ^ (32)))),(8,AV.int .u64 (AbP .and .u64 v1 4294967295)),(9,AV.int .u64 (Int.fdiv v1 (2 ^ (32)))),(10,AV.int .u64 (IntKind.wrap .u64 (AbP .and .u64 v0 4294967295*AbP .and .u64 v1 4294967295)))] [] 0 (by simp) (by simp) ?_;refine SQ [] [none,none,none,none,none,none,none] fun _ _ g r=>?_;try simp
 and_intros <;> first | exact GK g | apply r | omega | (simp [maxLen] <;> omega)
 refine WK [(0,AV.int .u64 v0),(1,AV.int .u64 v1),(6,AV.int .u64 (AbP .and .u64 v0 4294967295)),(7,AV.int .u64 (Int.fdiv v0 (2 ^ (32)))),(9,AV.int .u64 (Int.fdiv v1 (2 ^ (32)))),(11,AV.int .u64 (IntKind.wrap .u64 (IntKind.wrap .u64 (Int.fdiv v0 (2 ^ (32))*AbP .and .u64 v1 4294967295)+Int.fdiv (IntKind.wrap .u64 (AbP .and .u64 v0 4294967295*AbP .and .u64 v1 4294967295)) (2 ^ (32)))))] [] 0 (by simp) (by simp) ?_;refine SQ [] [none,none,none] fun _ _ g r=>?_;try simp
 and_intros <;> first | exact GK g | apply r | omega | (simp [maxLen] <;> omega)
 refine WK [(0,AV.int .u64 v0),(1,AV.int .u64 v1),(6,AV.int .u64 (AbP .and .u64 v0 4294967295)),(7,AV.int .u64 (Int.fdiv v0 (2 ^ (32)))),(9,AV.int .u64 (Int.fdiv v1 (2 ^ (32)))),(11,AV.int .u64 (IntKind.wrap .u64 (IntKind.wrap .u64 (Int.fdiv v0 (2 ^ (32))*AbP .and .u64 v1 4294967295)+Int.fdiv (IntKind.wrap .u64 (AbP .and .u64 v0 4294967295*AbP .and .u64 v1 4294967295)) (2 ^ (32))))),(12,AV.int .u64 (AbP .and .u64 (IntKind.wrap .u64 (IntKind.wrap .u64 (Int.fdiv v0 (2 ^ (32))*AbP .and .u64 v1 4294967295)+Int.fdiv (IntKind.wrap .u64 (AbP .and .u64 v0 4294967295*AbP .and .u64 v1 4294967295)) (2 ^ (32)))) 4294967295))] [] 0 (by simp) (by simp) ?_;refine SQ [] [none,none,none] fun _ _ g r=>?_;try simp
 and_intros <;> first | exact GK g | apply r | omega | (simp [maxLen] <;> omega)
 refine WK [(0,AV.int .u64 v0),(1,AV.int .u64 v1),(6,AV.int .u64 (AbP .and .u64 v0 4294967295)),(7,AV.int .u64 (Int.fdiv v0 (2 ^ (32)))),(9,AV.int .u64 (Int.fdiv v1 (2 ^ (32)))),(12,AV.int .u64 (AbP .and .u64 (IntKind.wrap .u64 (IntKind.wrap .u64 (Int.fdiv v0 (2 ^ (32))*AbP .and .u64 v1 4294967295)+Int.fdiv (IntKind.wrap .u64 (AbP .and .u64 v0 4294967295*AbP .and .u64 v1 4294967295)) (2 ^ (32)))) 4294967295)),(13,AV.int .u64 (Int.fdiv (IntKind.wrap .u64 (IntKind.wrap .u64 (Int.fdiv v0 (2 ^ (32))*AbP .and .u64 v1 4294967295)+Int.fdiv (IntKind.wrap .u64 (AbP .and .u64 v0 4294967295*AbP .and .u64 v1 4294967295)) (2 ^ (32)))) (2 ^ (32))))] [] 0 (by simp) (by simp) ?_;refine SQ [] [none,none,none,none,none,none] fun _ _ g r=>?_;try simp
 and_intros <;> first | exact GK g | apply r | omega | (simp [maxLen] <;> omega)
 refine WK [(0,AV.int .u64 v0),(1,AV.int .u64 v1),(7,AV.int .u64 (Int.fdiv v0 (2 ^ (32)))),(9,AV.int .u64 (Int.fdiv v1 (2 ^ (32)))),(12,AV.int .u64 (IntKind.wrap .u64 (AbP .and .u64 (IntKind.wrap .u64 (IntKind.wrap .u64 (Int.fdiv v0 (2 ^ (32))*AbP .and .u64 v1 4294967295)+Int.fdiv (IntKind.wrap .u64 (AbP .and .u64 v0 4294967295*AbP .and .u64 v1 4294967295)) (2 ^ (32)))) 4294967295+IntKind.wrap .u64 (AbP .and .u64 v0 4294967295*Int.fdiv v1 (2 ^ (32)))))),(13,AV.int .u64 (Int.fdiv (IntKind.wrap .u64 (IntKind.wrap .u64 (Int.fdiv v0 (2 ^ (32))*AbP .and .u64 v1 4294967295)+Int.fdiv (IntKind.wrap .u64 (AbP .and .u64 v0 4294967295*AbP .and .u64 v1 4294967295)) (2 ^ (32)))) (2 ^ (32))))] [] 0 (by simp) (by simp) ?_;refine SQ [] [none,none,none,none,none,none,none,none,none] fun _ _ g r=>?_;try simp
 and_intros <;> first | exact GK g | apply r | omega | (simp [maxLen] <;> omega)
 refine WK [(0,AV.int .u64 v0),(1,AV.int .u64 v1),(4,AV.int .u64 (IntKind.wrap .u64 (IntKind.wrap .u64 (IntKind.wrap .u64 (Int.fdiv v0 (2 ^ (32))*Int.fdiv v1 (2 ^ (32)))+Int.fdiv (IntKind.wrap .u64 (IntKind.wrap .u64 (Int.fdiv v0 (2 ^ (32))*AbP .and .u64 v1 4294967295)+Int.fdiv (IntKind.wrap .u64 (AbP .and .u64 v0 4294967295*AbP .and .u64 v1 4294967295)) (2 ^ (32)))) (2 ^ (32)))+Int.fdiv (IntKind.wrap .u64 (AbP .and .u64 (IntKind.wrap .u64 (IntKind.wrap .u64 (Int.fdiv v0 (2 ^ (32))*AbP .and .u64 v1 4294967295)+Int.fdiv (IntKind.wrap .u64 (AbP .and .u64 v0 4294967295*AbP .and .u64 v1 4294967295)) (2 ^ (32)))) 4294967295+IntKind.wrap .u64 (AbP .and .u64 v0 4294967295*Int.fdiv v1 (2 ^ (32))))) (2 ^ (32)))))] [] 0 (by simp) (by simp) ?_;refine SQ [] [none,none,none,none] fun _ _ g r=>?_;try simp
 and_intros <;> first | exact GK g | apply r | omega | (simp [maxLen] <;> omega)
 refine WK [(4,AV.int .u64 (IntKind.wrap .u64 (IntKind.wrap .u64 (IntKind.wrap .u64 (Int.fdiv v0 (2 ^ (32))*Int.fdiv v1 (2 ^ (32)))+Int.fdiv (IntKind.wrap .u64 (IntKind.wrap .u64 (Int.fdiv v0 (2 ^ (32))*AbP .and .u64 v1 4294967295)+Int.fdiv (IntKind.wrap .u64 (AbP .and .u64 v0 4294967295*AbP .and .u64 v1 4294967295)) (2 ^ (32)))) (2 ^ (32)))+Int.fdiv (IntKind.wrap .u64 (AbP .and .u64 (IntKind.wrap .u64 (IntKind.wrap .u64 (Int.fdiv v0 (2 ^ (32))*AbP .and .u64 v1 4294967295)+Int.fdiv (IntKind.wrap .u64 (AbP .and .u64 v0 4294967295*AbP .and .u64 v1 4294967295)) (2 ^ (32)))) 4294967295+IntKind.wrap .u64 (AbP .and .u64 v0 4294967295*Int.fdiv v1 (2 ^ (32))))) (2 ^ (32))))),(5,AV.int .u64 (IntKind.wrap .u64 (v0*v1)))] [] 0 (by simp) (by simp) ?_;simp only [Option.some.injEq,Prod.mk.injEq] at hF;obtain ⟨e0,e1⟩:=hF;subst e0 e1;refine AW.ret (hQ _ _ _ ?_ (AaF ?_)).1
 ·simp [Try.f115]
 ·simp
theorem AgZ (k : Nat) (v0 : Int) (v1 : Int) (v2 : Int) (v3 : Int) (hF : AeC k v0 v1=some (v2,v3)) :
 Aa9 Try.prog 111 [AV.int .u64 v0,AV.int .u64 v1] [] (AV.tup [AV.int .u64 v2,AV.int .u64 v3]) []:=by
 unfold AeC at hF;refine EN Try.func111 ?_;intro c0 w0 Q h0 hQ
 refine WK [(0,AV.int .u64 v0),(1,AV.int .u64 v1)] [] 0 (by simp) (by simp) ?_;refine SQ [] [none,none] fun _ _ g r=>?_;try simp
 and_intros <;> first | exact GK g | apply r | omega | (simp [maxLen] <;> omega)
 refine WK [(0,AV.int .u64 v0),(1,AV.int .u64 v1)] [] 0 (by simp) (by simp) ?_;refine AW.seq fun K6 hK6=>?_;refine AW.condCF ?_;refine AW.skip ?_;refine hK6 _ _ _ ?_;refine SQ [] [none,none,none,none,none,none,none,none] fun _ _ g r=>?_;try simp
 and_intros
 try any_goals first | omega | (simp [maxLen] <;> omega)
 obtain ⟨v4,v5,h1,hF⟩:=Aa8 hF;refine AC (Afx k _ _ _ _ h1) (.cons (.same (by simp)) (.cons (.same (by simp)) .nil)) ?_;try simp
 and_intros <;> first | exact GK g | apply r | omega | (simp [maxLen] <;> omega)
 refine WK [(8,AV.int .u64 v4),(9,AV.int .u64 v5)] [] 0 (by simp) (by simp) ?_;refine SQ [] [none,none,none,none] fun _ _ g r=>?_;try simp
 and_intros <;> first | exact GK g | apply r | omega | (simp [maxLen] <;> omega)
 refine WK [(4,AV.int .u64 v4),(5,AV.int .u64 v5)] [] 0 (by simp) (by simp) ?_;simp only [Option.some.injEq,Prod.mk.injEq] at hF;obtain ⟨e0,e1⟩:=hF;subst e0 e1;refine AW.ret (hQ _ _ _ ?_ (AaF ?_)).1
 ·simp [Try.f111]
 ·simp
theorem Ad6 (k : Nat) (v0 : (List Int)) (v1 : Int) (v2 : (List Int)) (hF : Aax k v0 v1=some v2) :
 Aa9 Try.prog 95 [AV.lst false false (List.map (AV.int .i64) v0),AV.int .i64 v1] [] (AV.slc 0 0 1 v2.length false) [some (Ci v2)]:=by
 unfold Aax at hF;refine EN Try.func95 ?_;intro c0 w0 Q h0 hQ
 refine WK [(0,Lz v0),(1,Iz v1)] [] 0 (by simp [-List.reduceReplicate,AaG,AaH,AaD]) (by simp [-List.reduceReplicate,AaG,AaH,AaD]) ?_;refine SQ [] [none] fun _ _ g r=>?_;try simp [-List.reduceReplicate,AaG,AaH,AaD]
 and_intros <;> first | exact GK g | apply r | omega | (simp [-List.reduceReplicate,AaG,AaH,AaD,maxLen] <;> omega)
 refine WK [(0,Lz v0),(1,Iz v1)] [] 0 (by simp [-List.reduceReplicate,AaG,AaH,AaD]) (by simp [-List.reduceReplicate,AaG,AaH,AaD]) ?_;refine AW.seq fun K56 hK56=>?_;refine SQ [] [none,none] fun _ _ g r=>?_;try simp [-List.reduceReplicate,AaG,AaH,AaD]
 and_intros <;> first | exact GK g | apply r | omega | (simp [-List.reduceReplicate,AaG,AaH,AaD,maxLen] <;> omega)
 refine WK [(0,Lz v0),(1,Iz v1),(10,AV.bool (decide (v1<0)))] [] 0 (by simp [-List.reduceReplicate,AaG,AaH,AaD]) (by simp [-List.reduceReplicate,AaG,AaH,AaD]) ?_;by_cases h1 : v1<0
 ·replace hF:=AaX h1 hF;cases hF
 ·replace hF:=AaY h1 hF;have h1_:=h1;try simp [-List.reduceReplicate] at h1_
  refine CF (by simp [-List.reduceReplicate,AaG,AaH,AaD,h1,h1_] <;> omega) ?_;refine AW.skip ?_;refine hK56 _ _ _ ?_;refine SQ [] [none,none,none,none,none,none,none,none,none,none,none] fun _ _ g r=>?_;try simp [-List.reduceReplicate,AaG,AaH,AaD,h1,h1_]
  and_intros
  try any_goals first | omega | (simp [-List.reduceReplicate,AaG,AaH,AaD,h1,h1_,maxLen] <;> omega)
  obtain ⟨v3,v4,h2,hF⟩:=Aa8 hF;refine AC (AgZ k _ _ _ _ h2) (.cons (.same (by simp [-List.reduceReplicate,AaG,AaH,AaD,h1,h1_])) (.cons (.same (by simp [-List.reduceReplicate,AaG,AaH,AaD,h1,h1_])) .nil)) ?_;try simp [-List.reduceReplicate,AaG,AaH,AaD,h1,h1_]
  and_intros <;> first | exact GK g | apply r | omega | (simp [-List.reduceReplicate,AaG,AaH,AaD,h1,h1_,maxLen] <;> omega)
  refine WK [(0,Lz v0),(5,AV.int .u64 v3),(6,AV.int .u64 v4)] [] 0 (by simp [-List.reduceReplicate,AaG,AaH,AaD,h1,h1_]) (by simp [-List.reduceReplicate,AaG,AaH,AaD,h1,h1_]) ?_;refine AW.seq fun K63 hK63=>?_;refine SQ [] [none,none,none,some (23,false),some (23,false),none] fun _ _ g r=>?_;by_cases h3 : 0<v3
  ·replace hF:=AaX h3 hF;have h3_:=h3;try simp [-List.reduceReplicate] at h3_
   have F1:=A4 h1 h1_ h3 h3_;try simp [-List.reduceReplicate,AaG,AaH,AaD,F1]
   and_intros <;> first | exact GK g | apply r | omega | (simp [-List.reduceReplicate,AaG,AaH,AaD,maxLen,F1] <;> omega)
   refine WK [(0,Lz v0),(6,AV.int .u64 v4),(26,AV.bool true)] [] 0 (by simp [-List.reduceReplicate,AaG,AaH,AaD,F1]) (by simp [-List.reduceReplicate,AaG,AaH,AaD,F1]) ?_;refine CT (by simp [-List.reduceReplicate,AaG,AaH,AaD,F1]) ?_;cases hF
  ·replace hF:=AaY h3 hF;have h3_:=h3;try simp [-List.reduceReplicate] at h3_
   have F2:=A4 h1 h1_ h3 h3_;try simp [-List.reduceReplicate,AaG,AaH,AaD,F2]
   and_intros <;> first | exact GK g | apply r | omega | (simp [-List.reduceReplicate,AaG,AaH,AaD,maxLen,F2] <;> omega)
   refine WK [(0,Lz v0),(6,AV.int .u64 v4),(26,AV.bool (decide (9223372036854775807<v4)))] [] 0 (by simp [-List.reduceReplicate,AaG,AaH,AaD,F2]) (by simp [-List.reduceReplicate,AaG,AaH,AaD,F2]) ?_;by_cases h4 : 9223372036854775807<v4
   ·replace hF:=AaX h4 hF;cases hF
   ·replace hF:=AaY h4 hF;have h4_:=h4;try simp [-List.reduceReplicate] at h4_
    refine CF (by simp [-List.reduceReplicate,AaG,AaH,AaD,F2,h4,h4_] <;> omega) ?_;refine AW.skip ?_;refine hK63 _ _ _ ?_;refine SQ [30] [none,none,none,none] fun _ _ g r=>?_;obtain ⟨h5,hF⟩:=AaZ hF;have F3:=A4 F2 h4 h4_ h5;try simp [-List.reduceReplicate,AaG,AaH,AaD,F3]
    and_intros <;> first | exact GK g | apply r | omega | (simp [-List.reduceReplicate,AaG,AaH,AaD,maxLen,F3] <;> omega)
    refine WK [(0,Lz v0),(7,AV.slc 0 0 1 ((List.replicate (IntKind.wrap .i64 v4).toNat (0 : Int)).length) true)] [(0,Ci (List.replicate (IntKind.wrap .i64 v4).toNat (0 : Int)))] 1 (by simp [-List.reduceReplicate,AaG,AaH,AaD,F3]) (by simp [-List.reduceReplicate,AaG,AaH,AaD,F3]) ?_;refine SQ [] [none,none,none,none] fun _ _ g r=>?_;obtain ⟨⟨h6,h7,h8⟩,hF⟩:=AaZ hF;have h6n:=AcR h6;have h6_:=h6;try simp [-List.reduceReplicate] at h6_
    have h7_:=h7;try simp [-List.reduceReplicate] at h7_
    have h8_:=h8;try simp [-List.reduceReplicate] at h8_
    have h9:=AkQ (F:=(AV.int .i64)) (es:=1) (fun _=>rfl) (List.replicate (IntKind.wrap .i64 v4).toNat (0 : Int)) v0 (off:=0) (by omega);obtain ⟨v5,h10,hF⟩:=AdV hF;rw [h10] at h9;have h9_:=h9;try simp [-List.reduceReplicate] at h9_
    have h10l : v5.length=(List.replicate (IntKind.wrap .i64 v4).toNat (0 : Int)).length:=by rw [← h10]; simp <;> omega
    have h10p : 0<v5.length:=by omega
    have h10n:=AcR h10p;have h10f:=Aek (F:=(AV.int .i64)) (es:=1) (fun _=>rfl) (by decide) h10p;have F4:=A9 F3 h6 h7 h8 h6_ h7_ h8_ h9 (A6 h9_ h6n h10l h10p h10n h10f);try simp [-List.reduceReplicate,AaG,AaH,AaD,F4]
    and_intros <;> first | exact GK g | apply r | omega | (simp [-List.reduceReplicate,AaG,AaH,AaD,maxLen,F4] <;> omega)
    refine WK [(7,AV.slc 0 0 1 v5.length true),(8,Iz (v0.length : Int))] [(0,Ci v5)] 1 (by simp [-List.reduceReplicate,AaG,AaH,AaD,F4]) (by simp [-List.reduceReplicate,AaG,AaH,AaD,F4]) ?_;refine AW.seq fun K86 hK86=>?_;refine AW.block ?_;refine AW.loopF (α:=(Int×(List Int))) (fun n (v6,v7)=>Aax.L1 k n v6 v7=some v2) (fun (v6,v7)=>[(7,AV.slc 0 0 1 v7.length true),(8,Iz v6)]) (fun (v6,v7)=>[(0,Ci v7)]) 1 k (((v0.length : Int),v5)) hF (by simp [-List.reduceReplicate,AaG,AaH,AaD,F4]) (by simp [-List.reduceReplicate,AaG,AaH,AaD,F4]) (by simp) ?_;rintro (_|n1) ⟨v6,v7⟩ hF K99 hK99
    ·try dsimp only at hF
     rw [Aax.L1] at hF; cases hF
    try dsimp only at hF
    rw [Aax.L1] at hF;refine AW.seq fun K101 hK101=>?_;refine SQ [] [none,none,none,none] fun _ _ g r=>?_;try simp [-List.reduceReplicate,AaG,AaH,AaD,F4]
    and_intros <;> first | exact GK g | apply r | omega | (simp [-List.reduceReplicate,AaG,AaH,AaD,maxLen,F4] <;> omega)
    refine WK [(7,AV.slc 0 0 1 v7.length true),(8,Iz v6),(37,AV.bool (decide (v6<(v7.length : Int))))] [(0,Ci v7)] 1 (by simp [-List.reduceReplicate,AaG,AaH,AaD,F4]) (by simp [-List.reduceReplicate,AaG,AaH,AaD,F4]) ?_;by_cases h11 : v6<(v7.length : Int)
    ·replace hF:=AaX h11 hF;have h11_:=h11;try simp [-List.reduceReplicate] at h11_
     have F5:=A3 F4 h11 h11_;refine CT (by simp [-List.reduceReplicate,AaG,AaH,AaD,F5] <;> omega) ?_;refine AW.skip ?_;refine hK101 _ _ _ ?_;refine AW.block ?_;refine RG [] [none,none,none,none,none,none,none,none,none,none] fun _ _ g r=>?_;obtain ⟨⟨h12,h13⟩,hF⟩:=AaZ hF;have h12_:=h12;try simp [-List.reduceReplicate] at h12_
     have h13_:=h13;try simp [-List.reduceReplicate] at h13_
     obtain ⟨⟨h14,h15⟩,hF⟩:=AaZ hF;have h14_:=h14;try simp [-List.reduceReplicate] at h14_
     have h15_:=h15;try simp [-List.reduceReplicate] at h15_
     obtain ⟨⟨h16,h17,h18,h19⟩,hF⟩:=AaZ hF;have h16n:=AcR h16;have h16_:=h16;try simp [-List.reduceReplicate] at h16_
     have h17_:=h17;try simp [-List.reduceReplicate] at h17_
     have h18_:=h18;try simp [-List.reduceReplicate] at h18_
     have h19_:=h19;try simp [-List.reduceReplicate] at h19_
     have h20:=AkQ (F:=(AV.int .i64)) (es:=1) (fun _=>rfl) v7 ((v7.drop 0).take (min ((v6).toNat) (v7.length-((v6).toNat)))) (off:=(v6).toNat) (by omega);obtain ⟨v8,h21,hF⟩:=AdV hF;rw [h21] at h20;have h20_:=h20;try simp [-List.reduceReplicate] at h20_
     have h21l : v8.length=v7.length:=by rw [← h21]; simp <;> omega
     have h21p : 0<v8.length:=by omega
     have h21n:=AcR h21p;have h21f:=Aek (F:=(AV.int .i64)) (es:=1) (fun _=>rfl) (by decide) h21p;have F6:=A9 F5 h12 h13 h12_ h13_ h14 h15 h14_ (A9 h15_ h16 h17 h18 h19 h16_ h17_ h18_ (A8 h19_ h20 h20_ h16n h21l h21p h21n h21f));try simp [-List.reduceReplicate,AaG,AaH,AaD,F6]
     and_intros <;> first | exact GK g | apply r | omega | (simp [-List.reduceReplicate,AaG,AaH,AaD,maxLen,F6] <;> omega)
     refine hK99 _ _ _ ?_;exact NX (k':=n1) ((IntKind.wrap .i64 (v6+(((v7.drop 0).take (min ((v6).toNat) (v7.length-((v6).toNat)))).length : Int)),v8)) hF (by simp [-List.reduceReplicate,AaG,AaH,AaD,F6]) (by simp [-List.reduceReplicate,AaG,AaH,AaD,F6])
    ·replace hF:=AaY h11 hF;have h11_:=h11;try simp [-List.reduceReplicate] at h11_
     have F7:=A3 F4 h11 h11_;refine CF (by simp [-List.reduceReplicate,AaG,AaH,AaD,F7] <;> omega) ?_;refine AW.exit ?_;try simp [-List.reduceReplicate]
     refine hK86 _ _ _ ?_;refine SQ [] [none,none] fun _ _ g r=>?_;try simp [-List.reduceReplicate,AaG,AaH,AaD,F7]
     and_intros <;> first | exact GK g | apply r | omega | (simp [-List.reduceReplicate,AaG,AaH,AaD,maxLen,F7] <;> omega)
     refine WK [(4,AV.slc 0 0 1 v7.length true)] [(0,Ci v7)] 1 (by simp [-List.reduceReplicate,AaG,AaH,AaD,F7]) (by simp [-List.reduceReplicate,AaG,AaH,AaD,F7]) ?_;refine AW.flg [(4,AV.slc 0 0 1 v7.length false)] [] ⟨.slc,trivial⟩ trivial (by simp) ?_;simp only [Option.some.injEq] at hF;subst hF;refine AW.ret (hQ _ _ _ ?_ (AaF ?_)).1
     ·simp [Try.f95,F7]
     ·simp [F7]
theorem AgG (k : Nat) (v0 : Int) (v1 : (List AaA)) (v2 : (List Int)) (v3 : (List Int)) (v4 : Int) (v5 : Bool) (hF : AdA k v0 v1 v2 v3 v4=some v5) :
 Aa9 Try.prog 98 [AV.agg [AV.int .i64 v0,Q2 v1,AV.lst false false (List.map (AV.int .i64) v2)],AV.lst false false (List.map (AV.int .i64) v3),AV.int .i64 v4] [] (AV.bool v5) []:=by
 unfold AdA at hF;refine EN Try.func98 ?_;intro c0 w0 Q h0 hQ
 refine WK [(0,AV.agg [Iz v0,Q2 v1,Lz v2]),(1,Lz v3),(2,Iz v4)] [] 0 (by simp) (by simp) ?_;refine SQ [] [none,none] fun _ _ g r=>?_;try simp
 and_intros <;> first | exact GK g | apply r | omega | (simp [maxLen] <;> omega)
 refine WK [(1,Lz v3),(2,Iz v4),(3,AV.ptr 0 0)] [(0,.cells [Iz v0,Q2 v1,Lz v2])] 1 (by simp) (by simp) ?_;refine SQ [] [none,none,none,none,some (10,true),some (10,true),some (10,true),some (10,true),some (10,true),none,none] fun _ _ g r=>?_;try simp
 and_intros
 try any_goals first | omega | (simp [maxLen] <;> omega)
 obtain ⟨v6,h1,hF⟩:=AaO hF;refine AC (Abg k _ _ _ h1) (.cons (.same (by simp)) (.cons (.same (by simp)) .nil)) ?_;by_cases h2 : v6=true
 ·replace hF:=AaX h2 hF;have h2_:=h2;try simp at h2_
  try simp [h2,h2_]
  and_intros
  try any_goals first | omega | (simp [h2,h2_,maxLen] <;> omega)
  obtain ⟨v7,h3,hF⟩:=AaO hF;refine AC (Abg k _ _ _ h3) (.cons (.same (by simp [h2,h2_])) (.cons (.same (by simp [h2,h2_])) .nil)) ?_;try simp [h2,h2_]
  and_intros <;> first | exact GK g | apply r | omega | (simp [h2,h2_,maxLen] <;> omega)
  refine WK [(6,AV.bool (!v7))] [] 1 (by simp [h2,h2_]) (by simp [h2,h2_]) ?_;simp only [Option.some.injEq] at hF;subst hF;refine AW.ret (hQ _ _ _ ?_ (AaF ?_)).1
  ·simp [Try.f98,h2,h2_]
  ·simp [h2,h2_]
 ·replace hF:=AaY h2 hF;have h2_:=h2;try simp at h2_
  try simp [h2,h2_]
  and_intros <;> first | exact GK g | apply r | omega | (simp [h2,h2_,maxLen] <;> omega)
  refine WK [(6,AV.bool false)] [] 1 (by simp [h2,h2_]) (by simp [h2,h2_]) ?_;simp only [Option.some.injEq] at hF;subst hF;refine AW.ret (hQ _ _ _ ?_ (AaF ?_)).1
  ·simp [Try.f98,h2,h2_]
  ·simp [h2,h2_]
theorem AgH (k : Nat) (v0 : Int) (v1 : Int) (v2 : (List AaA)) (v3 : (List Int)) (v4 : (List Int)) (v5 : Bool) (hF : Aca k v0 v1 v2 v3 v4=some v5) :
 Aa9 Try.prog 97 [AV.int .i64 v0,AV.ptr 0 0,AV.ptr 1 0] [.cells [AV.int .i64 v1,Q2 v2,AV.lst false false (List.map (AV.int .i64) v3)],.cells [AV.lst false false (List.map (AV.int .i64) v4)]] (AV.bool v5) [some (.cells [AV.int .i64 v1,Q2 v2,AV.lst false false (List.map (AV.int .i64) v3)]),some (.cells [AV.lst false false (List.map (AV.int .i64) v4)])]:=by
 unfold Aca at hF;refine EN Try.func97 ?_;intro c0 w0 Q h0 hQ
 refine WK [(0,Iz v0),(1,AV.ptr 0 0),(2,AV.ptr 1 0)] [(0,.cells [Iz v1,Q2 v2,Lz v3]),(1,.cells [Lz v4])] 2 (by simp) (by simp) ?_;refine SQ [] [none] fun _ _ g r=>?_;try simp
 and_intros <;> first | exact GK g | apply r | omega | (simp [maxLen] <;> omega)
 refine WK [(0,Iz v0),(1,AV.ptr 0 0),(2,AV.ptr 1 0)] [(0,.cells [Iz v1,Q2 v2,Lz v3]),(1,.cells [Lz v4])] 2 (by simp) (by simp) ?_;refine SQ [] [none,none,none,none,none] fun _ _ g r=>?_;try simp
 and_intros
 try any_goals first | omega | (simp [maxLen] <;> omega)
 obtain ⟨v6,h1,hF⟩:=AaO hF;refine AC (AgG k _ _ _ _ _ _ h1) (.cons (.same (by simp)) (.cons (.same (by simp)) (.cons (.same (by simp)) .nil))) ?_;try simp
 and_intros <;> first | exact GK g | apply r | omega | (simp [maxLen] <;> omega)
 refine WK [(4,AV.bool v6)] [(0,.cells [Iz v1,Q2 v2,Lz v3]),(1,.cells [Lz v4])] 2 (by simp) (by simp) ?_;simp only [Option.some.injEq] at hF;subst hF;refine AW.ret (hQ _ _ _ ?_ (AaF ?_)).1
 ·simp [Try.f97]
 ·simp
theorem AfH (k : Nat) (v0 : Int) (v1 : Int) (v2 : (List AaA)) (v3 : (List Int)) (v4 : (List Int)) (v5 : (List Int)) (hF : Aah k v0 v1 v2 v3 v4=some v5) :
 Aa9 Try.prog 96 [AV.int .i64 v0,AV.fn 97 [AV.ptr 0 0,AV.ptr 1 0]] [.cells [AV.int .i64 v1,Q2 v2,AV.lst false false (List.map (AV.int .i64) v3)],.cells [AV.lst false false (List.map (AV.int .i64) v4)]] (AV.slc 2 0 1 v5.length false) [some (.cells [AV.int .i64 v1,Q2 v2,AV.lst false false (List.map (AV.int .i64) v3)]),some (.cells [AV.lst false false (List.map (AV.int .i64) v4)]),some (Gi v5)]:=by
 unfold Aah at hF;refine EN Try.func96 ?_;intro c0 w0 Q h0 hQ
 refine WK [(0,Iz v0),(1,AV.fn 97 [AV.ptr 0 0,AV.ptr 1 0])] [(0,.cells [Iz v1,Q2 v2,Lz v3]),(1,.cells [Lz v4])] 2 (by simp) (by simp) ?_;refine SQ [] [none] fun _ _ g r=>?_;try simp
 and_intros <;> first | exact GK g | apply r | omega | (simp [maxLen] <;> omega)
 refine WK [(0,Iz v0),(1,AV.fn 97 [AV.ptr 0 0,AV.ptr 1 0])] [(0,.cells [Iz v1,Q2 v2,Lz v3]),(1,.cells [Lz v4])] 2 (by simp) (by simp) ?_;refine SQ [] [none] fun _ _ g r=>?_;try simp
 and_intros <;> first | exact GK g | apply r | omega | (simp [maxLen] <;> omega)
 refine WK [(0,Iz v0),(1,AV.fn 97 [AV.ptr 0 0,AV.ptr 1 0]),(5,AV.lst true true (List.map (AV.int .i64) ([] : List Int)))] [(0,.cells [Iz v1,Q2 v2,Lz v3]),(1,.cells [Lz v4])] 2 (by simp) (by simp) ?_;refine AW.seq fun K133 hK133=>?_;refine SQ [] [none,none] fun _ _ g r=>?_;try simp
 and_intros <;> first | exact GK g | apply r | omega | (simp [maxLen] <;> omega)
 refine WK [(1,AV.fn 97 [AV.ptr 0 0,AV.ptr 1 0]),(5,AV.lst true true (List.map (AV.int .i64) ([] : List Int))),(7,Iz v0),(8,Iz 0)] [(0,.cells [Iz v1,Q2 v2,Lz v3]),(1,.cells [Lz v4])] 2 (by simp) (by simp) ?_;refine AW.block ?_;refine AW.own' 5 1 true (by simp) (by decide) ?_;refine AW.loopF (α:=(Int×(List Int))) (fun n (v6,v7)=>Aah.L1 k v0 v1 v2 v3 v4 n v6 v7=some v5) (fun (v6,v7)=>[(1,AV.fn 97 [AV.ptr 0 0,AV.ptr 1 0]),(5,AV.slc 2 0 1 v7.length false),(7,Iz v0),(8,Iz v6)]) (fun (v6,v7)=>[(0,.cells [Iz v1,Q2 v2,Lz v3]),(1,.cells [Lz v4]),(2,Gi v7)]) 3 k ((0,([] : List Int))) hF (by simp) (by simp) (by simp) ?_;rintro (_|n1) ⟨v6,v7⟩ hF K165 hK165
 ·try dsimp only at hF
  rw [Aah.L1] at hF; cases hF
 try dsimp only at hF
 rw [Aah.L1] at hF;refine SQ [] [none] fun _ _ g r=>?_;try simp
 and_intros <;> first | exact GK g | apply r | omega | (simp [maxLen] <;> omega)
 refine WK [(1,AV.fn 97 [AV.ptr 0 0,AV.ptr 1 0]),(5,AV.slc 2 0 1 v7.length false),(7,Iz v0),(8,Iz v6),(9,AV.bool (decide (v6<v0)))] [(0,.cells [Iz v1,Q2 v2,Lz v3]),(1,.cells [Lz v4]),(2,Gi v7)] 3 (by simp) (by simp) ?_;refine AW.seq fun K167 hK167=>?_;by_cases h1 : v6<v0
 ·replace hF:=AaX h1 hF;have h1_:=h1;try simp at h1_
  refine CT (by simp [h1,h1_] <;> omega) ?_;refine AW.skip ?_;refine hK167 _ _ _ ?_;refine AW.midF (α:=(List Int)) (fun v8=>Aah.J2 k v6 (fun v6_ v7_=>Aah.L1 k v0 v1 v2 v3 v4 n1 v6_ v7_) v8=some v5) (fun v8=>[(1,AV.fn 97 [AV.ptr 0 0,AV.ptr 1 0]),(5,AV.slc 2 0 1 v8.length false),(7,Iz v0),(8,Iz v6)]) (fun v8=>[(0,.cells [Iz v1,Q2 v2,Lz v3]),(1,.cells [Lz v4]),(2,Gi v8)]) 3 (fun K172 hK172=>?_) ?_
  ·refine AW.block ?_;refine SQ [] [none,none] fun _ _ g r=>?_;try simp [h1,h1_]
   and_intros <;> first | exact GK g | apply r | omega | (simp [h1,h1_,maxLen] <;> omega)
   refine WK [(1,AV.fn 97 [AV.ptr 0 0,AV.ptr 1 0]),(5,AV.slc 2 0 1 v7.length false),(6,Iz v6),(7,Iz v0),(8,Iz v6)] [(0,.cells [Iz v1,Q2 v2,Lz v3]),(1,.cells [Lz v4]),(2,Gi v7)] 3 (by simp [h1,h1_]) (by simp [h1,h1_]) ?_;refine SQ [] [none,none,none] fun _ _ g r=>?_;try simp [h1,h1_]
   and_intros
   try any_goals first | omega | (simp [h1,h1_,maxLen] <;> omega)
   obtain ⟨v9,h2,hF⟩:=AaO hF;refine Aa1 (AgH k _ _ _ _ _ _ h2) (by simp) [0,1] [] [] rfl (.cons (.same (by simp [h1,h1_])) (.cons (.same (by simp [h1,h1_])) (.cons (.same (by simp [h1,h1_])) .nil))) (by simp [h1,h1_]) (by decide) (by simp) (by simp) (.inl rfl) (by simp) (by simp) ?_;try simp [h1,h1_]
   and_intros <;> first | exact GK g | apply r | omega | (simp [h1,h1_,maxLen] <;> omega)
   refine WK [(1,AV.fn 97 [AV.ptr 0 0,AV.ptr 1 0]),(5,AV.slc 2 0 1 v7.length false),(6,Iz v6),(7,Iz v0),(8,Iz v6),(13,AV.bool v9)] [(0,.cells [Iz v1,Q2 v2,Lz v3]),(1,.cells [Lz v4]),(2,Gi v7)] 3 (by simp [h1,h1_]) (by simp [h1,h1_]) ?_;by_cases h3 : v9=true
   ·replace hF:=AaX h3 hF;have h3_:=h3;try simp at h3_
    have F1:=A4 h1 h1_ h3 h3_;refine CT (by simp [F1] <;> omega) ?_;refine RG [] [none,none,none,none,none] fun _ _ g r=>?_;obtain ⟨h4,hF⟩:=AaZ hF;have h4_:=h4;try simp at h4_
    have F2:=A2 F1 h4;try simp [F2]
    and_intros <;> first | exact GK g | apply r | omega | (simp [maxLen,F2] <;> omega)
    refine hK172 _ _ _ ?_;refine Can.weak [(1,AV.fn 97 [AV.ptr 0 0,AV.ptr 1 0]),(5,AV.slc 3 0 1 ((v7++([v6] : List Int)).length) false),(7,Iz v0),(8,Iz v6)] [(0,.cells [Iz v1,Q2 v2,Lz v3]),(1,.cells [Lz v4]),(3,Gi (v7++([v6] : List Int)))] 4 (by simp [F2] <;> omega) (by simp [F2]) (by simp) ?_;refine Can.ren (m:=2) h0 [(0,0),(1,1),(2,3)] [(1,AV.fn 97 [AV.ptr 0 0,AV.ptr 1 0]),(5,AV.slc 2 0 1 ((v7++([v6] : List Int)).length) false),(7,Iz v0),(8,Iz v6)] [(0,.cells [Iz v1,Q2 v2,Lz v3]),(1,.cells [Lz v4]),(2,Gi (v7++([v6] : List Int)))] 3 (by decide) (by decide) (by decide) rfl (by simp [F2]) (by simp [F2]) ?_;exact JN (v7++([v6] : List Int)) hF (by simp [F2]) (by simp [F2])
   ·replace hF:=AaY h3 hF;have h3_:=h3;try simp at h3_
    have F3:=A4 h1 h1_ h3 h3_;refine CF (by simp [F3] <;> omega) ?_;refine AW.skip ?_;refine hK172 _ _ _ ?_;exact JN (v7) hF (by simp [F3]) (by simp [F3])
  ·rintro v8 hF
   try dsimp only at hF
   unfold Aah.J2 at hF;refine RG [] [none,none] fun _ _ g r=>?_;try simp [h1,h1_]
   and_intros <;> first | exact GK g | apply r | omega | (simp [h1,h1_,maxLen] <;> omega)
   refine hK165 _ _ _ ?_;exact NX (k':=n1) ((IntKind.wrap .i64 (v6+1),v8)) hF (by simp [h1,h1_]) (by simp [h1,h1_])
 ·replace hF:=AaY h1 hF;have h1_:=h1;try simp at h1_
  refine CF (by simp [h1,h1_] <;> omega) ?_;refine AW.exit ?_;try simp
  refine hK133 _ _ _ ?_;refine SQ [] [none,none] fun _ _ g r=>?_;try simp [h1,h1_]
  and_intros <;> first | exact GK g | apply r | omega | (simp [h1,h1_,maxLen] <;> omega)
  refine WK [(4,AV.slc 2 0 1 v7.length false)] [(0,.cells [Iz v1,Q2 v2,Lz v3]),(1,.cells [Lz v4]),(2,Gi v7)] 3 (by simp [h1,h1_]) (by simp [h1,h1_]) ?_;simp only [Option.some.injEq] at hF;subst hF;refine AW.ret (hQ _ _ _ ?_ (AaF ?_)).1
  ·simp [Try.f96,h1,h1_]
  ·simp [h1,h1_]
theorem Afy (k : Nat) (v0 : Int) (v1 : Int) (hF : Aaw k v0=some v1) :
 Aa9 Try.prog 128 [AV.int .u64 v0] [] (AV.int .i64 v1) []:=by
 unfold Aaw at hF;refine EN Try.func128 ?_;intro c0 w0 Q h0 hQ
 refine WK [(0,AV.int .u64 v0)] [] 0 (by simp) (by simp) ?_;refine SQ [] [none] fun _ _ g r=>?_;try simp
 and_intros <;> first | exact GK g | apply r | omega | (simp [maxLen] <;> omega)
 refine WK [(0,AV.int .u64 v0),(2,Iz 0)] [] 0 (by simp) (by simp) ?_;refine AW.midF (α:=(Int×Int)) (fun (v2,v3)=>Aaw.J1 k v2 v3=some v1) (fun (v2,v3)=>[(0,AV.int .u64 v2),(2,Iz v3)]) (fun (v2,v3)=>[]) 0 (fun K43 hK43=>?_) ?_
 ·refine SQ [] [none,none] fun _ _ g r=>?_;try simp
  and_intros <;> first | exact GK g | apply r | omega | (simp [maxLen] <;> omega)
  refine WK [(0,AV.int .u64 v0),(2,Iz 0),(4,AV.bool (decide (4294967296≤v0)))] [] 0 (by simp) (by simp) ?_;by_cases h6 : 4294967296≤v0
  ·replace hF:=AaX h6 hF;have h6_:=h6;try simp at h6_
   refine CT (by simp [h6,h6_] <;> omega) ?_;refine SQ [] [none,none,none] fun _ _ g r=>?_;try simp [h6,h6_]
   and_intros <;> first | exact GK g | apply r | omega | (simp [h6,h6_,maxLen] <;> omega)
   refine WK [(0,AV.int .u64 (Int.fdiv v0 (2 ^ (32))))] [] 0 (by simp [h6,h6_]) (by simp [h6,h6_]) ?_;refine RG [] [none] fun _ _ g r=>?_;try simp [h6,h6_]
   and_intros <;> first | exact GK g | apply r | omega | (simp [h6,h6_,maxLen] <;> omega)
   refine hK43 _ _ _ ?_;exact JN ((Int.fdiv v0 (2 ^ (32)),32)) hF (by simp [h6,h6_]) (by simp [h6,h6_])
  ·replace hF:=AaY h6 hF;have h6_:=h6;try simp at h6_
   refine CF (by simp [h6,h6_] <;> omega) ?_;refine AW.skip ?_;refine hK43 _ _ _ ?_;exact JN ((v0,0)) hF (by simp [h6,h6_]) (by simp [h6,h6_])
 ·rintro ⟨v2,v3⟩ hF
  try dsimp only at hF
  unfold Aaw.J1 at hF;refine AW.midF (α:=(Int×Int)) (fun (v4,v5)=>Aaw.J2 k v4 v5=some v1) (fun (v4,v5)=>[(0,AV.int .u64 v4),(2,Iz v5)]) (fun (v4,v5)=>[]) 0 (fun K39 hK39=>?_) ?_
  ·refine SQ [] [none,none] fun _ _ g r=>?_;try simp
   and_intros <;> first | exact GK g | apply r | omega | (simp [maxLen] <;> omega)
   refine WK [(0,AV.int .u64 v2),(2,Iz v3),(8,AV.bool (decide (65536≤v2)))] [] 0 (by simp) (by simp) ?_;by_cases h5 : 65536≤v2
   ·replace hF:=AaX h5 hF;have h5_:=h5;try simp at h5_
    refine CT (by simp [h5,h5_] <;> omega) ?_;refine SQ [] [none,none,none] fun _ _ g r=>?_;try simp [h5,h5_]
    and_intros <;> first | exact GK g | apply r | omega | (simp [h5,h5_,maxLen] <;> omega)
    refine WK [(0,AV.int .u64 (Int.fdiv v2 (2 ^ (16)))),(2,Iz v3)] [] 0 (by simp [h5,h5_]) (by simp [h5,h5_]) ?_;refine RG [] [none,none,none] fun _ _ g r=>?_;try simp [h5,h5_]
    and_intros <;> first | exact GK g | apply r | omega | (simp [h5,h5_,maxLen] <;> omega)
    refine hK39 _ _ _ ?_;exact JN ((Int.fdiv v2 (2 ^ (16)),IntKind.wrap .i64 (v3+16))) hF (by simp [h5,h5_]) (by simp [h5,h5_])
   ·replace hF:=AaY h5 hF;have h5_:=h5;try simp at h5_
    refine CF (by simp [h5,h5_] <;> omega) ?_;refine AW.skip ?_;refine hK39 _ _ _ ?_;exact JN ((v2,v3)) hF (by simp [h5,h5_]) (by simp [h5,h5_])
  ·rintro ⟨v4,v5⟩ hF
   try dsimp only at hF
   unfold Aaw.J2 at hF;refine AW.midF (α:=(Int×Int)) (fun (v6,v7)=>Aaw.J3 k v6 v7=some v1) (fun (v6,v7)=>[(0,AV.int .u64 v6),(2,Iz v7)]) (fun (v6,v7)=>[]) 0 (fun K35 hK35=>?_) ?_
   ·refine SQ [] [none,none] fun _ _ g r=>?_;try simp
    and_intros <;> first | exact GK g | apply r | omega | (simp [maxLen] <;> omega)
    refine WK [(0,AV.int .u64 v4),(2,Iz v5),(14,AV.bool (decide (256≤v4)))] [] 0 (by simp) (by simp) ?_;by_cases h4 : 256≤v4
    ·replace hF:=AaX h4 hF;have h4_:=h4;try simp at h4_
     refine CT (by simp [h4,h4_] <;> omega) ?_;refine SQ [] [none,none,none] fun _ _ g r=>?_;try simp [h4,h4_]
     and_intros <;> first | exact GK g | apply r | omega | (simp [h4,h4_,maxLen] <;> omega)
     refine WK [(0,AV.int .u64 (Int.fdiv v4 (2 ^ (8)))),(2,Iz v5)] [] 0 (by simp [h4,h4_]) (by simp [h4,h4_]) ?_;refine RG [] [none,none,none] fun _ _ g r=>?_;try simp [h4,h4_]
     and_intros <;> first | exact GK g | apply r | omega | (simp [h4,h4_,maxLen] <;> omega)
     refine hK35 _ _ _ ?_;exact JN ((Int.fdiv v4 (2 ^ (8)),IntKind.wrap .i64 (v5+8))) hF (by simp [h4,h4_]) (by simp [h4,h4_])
    ·replace hF:=AaY h4 hF;have h4_:=h4;try simp at h4_
     refine CF (by simp [h4,h4_] <;> omega) ?_;refine AW.skip ?_;refine hK35 _ _ _ ?_;exact JN ((v4,v5)) hF (by simp [h4,h4_]) (by simp [h4,h4_])
   ·rintro ⟨v6,v7⟩ hF
    try dsimp only at hF
    unfold Aaw.J3 at hF;refine SQ [] [none,none,none,none,none,none,none] fun _ _ g r=>?_;obtain ⟨v8,h1,h2,h3,hF⟩:=Aaa hF;have h3_:=Aao h3;have h2_:=h2;simp at h2_
    have h1_:=h1;try simp at h1_
    have h3__:=h3_;try simp [bI] at h3__
    have h3b:=Arb h3;try simp at h3b
    have F1:=A7 h1 h1_ h2_ h3 h3_ h3__ h3b;try simp [F1]
    and_intros <;> first | exact GK g | apply r | omega | (simp [maxLen,F1] <;> omega)
    refine WK [(2,Iz (IntKind.wrap .i64 (v7+IntKind.wrap .i64 v8)))] [] 0 (by simp [F1]) (by simp [F1]) ?_;simp only [Option.some.injEq] at hF;subst hF;refine AW.ret (hQ _ _ _ ?_ (AaF ?_)).1
    ·simp [Try.f128,F1]
    ·simp [F1]
theorem Aga (k : Nat) (v0 : Int) (v1 : Int) (hF : AcW k v0=some v1) :
 Aa9 Try.prog 117 [AV.int .u64 v0] [] (AV.int .i64 v1) []:=by
 unfold AcW at hF;refine EN Try.func117 ?_;intro c0 w0 Q h0 hQ
 refine WK [(0,AV.int .u64 v0)] [] 0 (by simp) (by simp) ?_;refine SQ [] [none] fun _ _ g r=>?_;try simp
 and_intros <;> first | exact GK g | apply r | omega | (simp [maxLen] <;> omega)
 refine WK [(0,AV.int .u64 v0)] [] 0 (by simp) (by simp) ?_;refine AW.seq fun K5 hK5=>?_;refine AW.condCF ?_;refine AW.skip ?_;refine hK5 _ _ _ ?_;refine SQ [] [none,none,none] fun _ _ g r=>?_;try simp
 and_intros
 try any_goals first | omega | (simp [maxLen] <;> omega)
 obtain ⟨v2,h1,hF⟩:=AaO hF;refine AC (Afy k _ _ h1) (.cons (.same (by simp)) .nil) ?_;try simp
 and_intros <;> first | exact GK g | apply r | omega | (simp [maxLen] <;> omega)
 refine WK [(2,Iz v2)] [] 0 (by simp) (by simp) ?_;simp only [Option.some.injEq] at hF;subst hF;refine AW.ret (hQ _ _ _ ?_ (AaF ?_)).1
 ·simp [Try.f117]
 ·simp
theorem AhB (k : Nat) (v0 : Int) (v1 : Int) (v2 : Bool) (hF : AdE k v0 v1=some v2) :
 Aa9 Try.prog 124 [AV.int .i64 v0,AV.int .i64 v1] [] (AV.bool v2) []:=by
 unfold AdE at hF;refine EN Try.func124 ?_;intro c0 w0 Q h0 hQ
 refine WK [(0,Iz v0),(1,Iz v1)] [] 0 (by simp) (by simp) ?_;refine SQ [] [none] fun _ _ g r=>?_;try simp
 and_intros <;> first | exact GK g | apply r | omega | (simp [maxLen] <;> omega)
 refine WK [(0,Iz v0),(1,Iz v1)] [] 0 (by simp) (by simp) ?_;refine SQ [] [none,none,none,some (7,true),some (7,true),some (7,true),none,none,some (12,false),some (12,false),some (12,false),none,none] fun _ _ g r=>?_;try simp
 and_intros
 try any_goals first | omega | (simp [maxLen] <;> omega)
 obtain ⟨v3,h1,hF⟩:=AaO hF;refine AC (Aco k _ _ h1) (.cons (.same (by simp)) .nil) ?_;by_cases h2 : v3=true
 ·replace hF:=AaX h2 hF;have h2_:=h2;try simp at h2_
  try simp [h2,h2_]
  and_intros
  try any_goals first | omega | (simp [h2,h2_,maxLen] <;> omega)
  obtain ⟨v4,h3,hF⟩:=AaO hF;refine AC (Aco k _ _ h3) (.cons (.same (by simp [h2,h2_])) .nil) ?_;by_cases h4 : (!v4)=true
  ·replace hF:=AaX h4 hF;have h4_:=h4;try simp at h4_
   have F1:=A4 h2 h2_ h4 h4_;try simp [F1]
   and_intros <;> first | exact GK g | apply r | omega | (simp [maxLen,F1] <;> omega)
   refine WK [(4,AV.bool true)] [] 0 (by simp [F1]) (by simp [F1]) ?_;simp only [Option.some.injEq] at hF;subst hF;refine AW.ret (hQ _ _ _ ?_ (AaF ?_)).1
   ·simp [Try.f124,F1]
   ·simp [F1]
  ·replace hF:=AaY h4 hF;have h4_:=h4;try simp at h4_
   have F2:=A4 h2 h2_ h4 h4_;try simp [F2]
   and_intros <;> first | exact GK g | apply r | omega | (simp [maxLen,F2] <;> omega)
   refine WK [(4,AV.bool (decide (v0<v1)))] [] 0 (by simp [F2]) (by simp [F2]) ?_;simp only [Option.some.injEq] at hF;subst hF;refine AW.ret (hQ _ _ _ ?_ (AaF ?_)).1
   ·simp [Try.f124,F2]
   ·simp [F2]
 ·replace hF:=AaY h2 hF;have h2_:=h2;try simp at h2_
  try simp [h2,h2_]
  and_intros <;> first | exact GK g | apply r | omega | (simp [h2,h2_,maxLen] <;> omega)
  refine WK [(4,AV.bool (decide (v0<v1)))] [] 0 (by simp [h2,h2_]) (by simp [h2,h2_]) ?_;simp only [Option.some.injEq] at hF;subst hF;refine AW.ret (hQ _ _ _ ?_ (AaF ?_)).1
  ·simp [Try.f124,h2,h2_]
  ·simp [h2,h2_]
theorem Acm (k : Nat) (v0 : (List Int)) (v1 : Int) (v2 : Int) (v3 : (List Int)) (hF : AaJ k v0 v1 v2=some v3) :
 Aa9 Try.prog 118 [AV.slc 0 0 1 v0.length false,AV.int .i64 v1,AV.int .i64 v2] [Gi v0] (AV.tup []) [some (Gi v3)]:=by
 unfold AaJ at hF;refine EN Try.func118 ?_;intro c0 w0 Q h0 hQ
 refine WK [(0,AV.slc 0 0 1 v0.length false),(1,Iz v1),(2,Iz v2)] [(0,Gi v0)] 1 (by simp) (by simp) ?_;refine SQ [] [none,none,none] fun _ _ g r=>?_;try simp
 and_intros <;> first | exact GK g | apply r | omega | (simp [maxLen] <;> omega)
 refine WK [(0,AV.slc 0 0 1 v0.length false),(1,Iz v1),(2,Iz v2),(6,Iz (IntKind.wrap .i64 (v1+1)))] [(0,Gi v0)] 1 (by simp) (by simp) ?_;refine AW.block ?_;refine AW.loopF (α:=(Int×(List Int))) (fun n (v4,v5)=>AaJ.L1 k v1 v2 n v4 v5=some v3) (fun (v4,v5)=>[(0,AV.slc 0 0 1 v5.length false),(1,Iz v1),(2,Iz v2),(6,Iz v4)]) (fun (v4,v5)=>[(0,Gi v5)]) 1 k ((IntKind.wrap .i64 (v1+1),v0)) hF (by simp) (by simp) (by simp) ?_;rintro (_|n1) ⟨v4,v5⟩ hF K459 hK459
 ·try dsimp only at hF
  rw [AaJ.L1] at hF; cases hF
 try dsimp only at hF
 rw [AaJ.L1] at hF;refine AW.seq fun K461 hK461=>?_;refine SQ [] [none,none,none] fun _ _ g r=>?_;try simp
 and_intros <;> first | exact GK g | apply r | omega | (simp [maxLen] <;> omega)
 refine WK [(0,AV.slc 0 0 1 v5.length false),(1,Iz v1),(2,Iz v2),(6,Iz v4),(12,AV.bool (decide (v4<v2)))] [(0,Gi v5)] 1 (by simp) (by simp) ?_;by_cases h1 : v4<v2
 ·replace hF:=AaX h1 hF;have h1_:=h1;try simp at h1_
  refine CT (by simp [h1,h1_] <;> omega) ?_;refine AW.skip ?_;refine hK461 _ _ _ ?_;refine AW.midF (α:=(List Int)) (fun v6=>AaJ.J2 k v4 (fun v4_ v5_=>AaJ.L1 k v1 v2 n1 v4_ v5_) v6=some v3) (fun v6=>[(0,AV.slc 0 0 1 v6.length false),(1,Iz v1),(2,Iz v2),(6,Iz v4)]) (fun v6=>[(0,Gi v6)]) 1 (fun K494 hK494=>?_) ?_
  ·refine AW.block ?_;refine SQ [] [none,none] fun _ _ g r=>?_;try simp [h1,h1_]
   and_intros <;> first | exact GK g | apply r | omega | (simp [h1,h1_,maxLen] <;> omega)
   refine WK [(0,AV.slc 0 0 1 v5.length false),(1,Iz v1),(2,Iz v2),(6,Iz v4),(7,Iz v4)] [(0,Gi v5)] 1 (by simp [h1,h1_]) (by simp [h1,h1_]) ?_;refine AW.block ?_;refine AW.loopF (α:=(Int×(List Int))) (fun n (v7,v8)=>AaJ.L3 k v1 v4 (fun v4_ v5_=>AaJ.L1 k v1 v2 n1 v4_ v5_) n v7 v8=some v3) (fun (v7,v8)=>[(0,AV.slc 0 0 1 v8.length false),(1,Iz v1),(2,Iz v2),(6,Iz v4),(7,Iz v7)]) (fun (v7,v8)=>[(0,Gi v8)]) 1 k ((v4,v5)) hF (by simp [h1,h1_]) (by simp [h1,h1_]) (by simp) ?_;rintro (_|n3) ⟨v7,v8⟩ hF K517 hK517
   ·try dsimp only at hF
    rw [AaJ.L3] at hF; cases hF
   try dsimp only at hF
   rw [AaJ.L3] at hF;refine AW.seq fun K519 hK519=>?_;refine SQ [] [none,none,none,none,some (19,true),some (19,true),some (19,true),some (19,true),some (19,true),some (19,true),some (19,true),some (19,true),some (19,true),some (19,true),none] fun _ _ g r=>?_;by_cases h2 : v1<v7
   ·replace hF:=AaX h2 hF;have h2_:=h2;try simp at h2_
    obtain ⟨⟨h3,h4⟩,hF⟩:=AaZ hF;have h4_:=AbH h4;obtain ⟨v9,h5,h6,h7,hF⟩:=Aaa hF;have h7_:=Aao h7;try simp at h7_
    have h6_:=h6;try simp at h6_
    obtain ⟨⟨h8,h9⟩,hF⟩:=AaZ hF;have h9_:=AbH h9;obtain ⟨v10,h10,h11,h12,hF⟩:=Aaa hF;have h12_:=Aao h12;try simp at h12_
    have h11_:=h11;try simp at h11_
    have F1:=A9 h1 h1_ h2 h2_ h3 h4 h4_ h5 (A9 h6 h7 h7_ h6_ h8 h9 h9_ h10 (A4 h11 h12 h12_ h11_));try simp [F1]
    and_intros
    try any_goals first | omega | (simp [maxLen,F1] <;> omega)
    obtain ⟨v11,h13,hF⟩:=AaO hF;refine AC (AhB k _ _ _ h13) (.cons (.same (by simp [F1])) (.cons (.same (by simp [F1])) .nil)) ?_;try simp [F1]
    and_intros <;> first | exact GK g | apply r | omega | (simp [maxLen,F1] <;> omega)
    refine WK [(0,AV.slc 0 0 1 v8.length false),(1,Iz v1),(2,Iz v2),(6,Iz v4),(7,Iz v7),(30,AV.bool v11)] [(0,Gi v8)] 1 (by simp [F1]) (by simp [F1]) ?_;by_cases h14 : v11=true
    ·replace hF:=AaX h14 hF;have h14_:=h14;try simp at h14_
     have F2:=A3 F1 h14 h14_;refine CT (by simp [F2] <;> omega) ?_;refine AW.skip ?_;refine hK519 _ _ _ ?_;refine AW.seq fun K522 hK522=>?_;refine AW.block ?_;refine RG [] [none,none,none,none,none,none,none,none,none,none,none,none,none,none,none,none,none,none] fun _ _ g r=>?_;obtain ⟨⟨h15,h16⟩,hF⟩:=AaZ hF;have h16_:=AbH h16;obtain ⟨⟨h17,h18⟩,hF⟩:=AaZ hF;have h18_:=AbH h18;obtain ⟨⟨h19,h20⟩,hF⟩:=AaZ hF;have h20_:=AbH h20;obtain ⟨⟨h21,h22⟩,hF⟩:=AaZ hF;have h22_:=AbH h22;have F3:=A9 F2 h15 h16 h16_ h17 h18 h18_ h19 (A5 h20 h20_ h21 h22 h22_);try simp [F3]
     and_intros <;> first | exact GK g | apply r | omega | (simp [maxLen,F3] <;> omega)
     refine hK522 _ _ _ ?_;refine WK [(0,AV.slc 0 0 1 (((v8.set (v7).toNat v10).set (IntKind.wrap .i64 (v7-1)).toNat v9).length) false),(1,Iz v1),(2,Iz v2),(6,Iz v4),(7,Iz v7)] [(0,Gi ((v8.set (v7).toNat v10).set (IntKind.wrap .i64 (v7-1)).toNat v9))] 1 (by simp [F3]) (by simp [F3]) ?_;refine RG [] [none,none,none] fun _ _ g r=>?_;try simp [F3]
     and_intros <;> first | exact GK g | apply r | omega | (simp [maxLen,F3] <;> omega)
     refine hK517 _ _ _ ?_;exact NX (k':=n3) ((IntKind.wrap .i64 (v7-1),(v8.set (v7).toNat v10).set (IntKind.wrap .i64 (v7-1)).toNat v9)) hF (by simp [F3]) (by simp [F3])
    ·replace hF:=AaY h14 hF;have h14_:=h14;try simp at h14_
     have F4:=A3 F1 h14 h14_;refine CF (by simp [F4] <;> omega) ?_;refine AW.exit ?_;try simp
     refine hK494 _ _ _ ?_;exact JN (v8) hF (by simp [F4]) (by simp [F4])
   ·replace hF:=AaY h2 hF;have h2_:=h2;try simp at h2_
    have F5:=A4 h1 h1_ h2 h2_;try simp [F5]
    and_intros <;> first | exact GK g | apply r | omega | (simp [maxLen,F5] <;> omega)
    refine WK [(0,AV.slc 0 0 1 v8.length false),(1,Iz v1),(2,Iz v2),(6,Iz v4),(7,Iz v7),(30,AV.bool false)] [(0,Gi v8)] 1 (by simp [F5]) (by simp [F5]) ?_;refine CF (by simp [F5]) ?_;refine AW.exit ?_;try simp
    refine hK494 _ _ _ ?_;exact JN (v8) hF (by simp [F5]) (by simp [F5])
  ·rintro v6 hF
   try dsimp only at hF
   unfold AaJ.J2 at hF;refine RG [] [none,none,none] fun _ _ g r=>?_;try simp [h1,h1_]
   and_intros <;> first | exact GK g | apply r | omega | (simp [h1,h1_,maxLen] <;> omega)
   refine hK459 _ _ _ ?_;exact NX (k':=n1) ((IntKind.wrap .i64 (v4+1),v6)) hF (by simp [h1,h1_]) (by simp [h1,h1_])
 ·replace hF:=AaY h1 hF;have h1_:=h1;try simp at h1_
  refine CF (by simp [h1,h1_] <;> omega) ?_;refine AW.exit ?_;try simp
  simp only [Option.some.injEq] at hF;subst hF;refine (hQ _ _ _ ?_ (AaF ?_)).2
  ·simp [Try.f118,h1,h1_]
  ·simp [h1,h1_]
theorem AdR (k : Nat) (v0 : (List Int)) (v1 : Int) (v2 : Int) (v3 : Int) (v4 : (List Int)) (hF : Aar k v0 v1 v2 v3=some v4) :
 Aa9 Try.prog 116 [AV.slc 0 0 1 v0.length false,AV.int .i64 v1,AV.int .i64 v2,AV.int .i64 v3] [Gi v0] (AV.tup []) [some (Gi v4)]:=by
 unfold Aar at hF;refine EN Try.func116 ?_;intro c0 w0 Q h0 hQ
 refine WK [(0,AV.slc 0 0 1 v0.length false),(1,Iz v1),(2,Iz v2),(3,Iz v3)] [(0,Gi v0)] 1 (by simp) (by simp) ?_;refine SQ [] [none] fun _ _ g r=>?_;try simp
 and_intros <;> first | exact GK g | apply r | omega | (simp [maxLen] <;> omega)
 refine WK [(0,AV.slc 0 0 1 v0.length false),(1,Iz v1),(2,Iz v2),(3,Iz v3),(8,AV.bool true)] [(0,Gi v0)] 1 (by simp) (by simp) ?_;refine SQ [] [none] fun _ _ g r=>?_;try simp
 and_intros <;> first | exact GK g | apply r | omega | (simp [maxLen] <;> omega)
 refine WK [(0,AV.slc 0 0 1 v0.length false),(1,Iz v1),(2,Iz v2),(3,Iz v3),(8,AV.bool true),(9,AV.bool true)] [(0,Gi v0)] 1 (by simp) (by simp) ?_;refine AW.block ?_;refine AW.loopF (α:=Unit) (fun n _=>Aar.L1 k v0 v1 v2 v3 n=some v4) (fun _=>[(0,AV.slc 0 0 1 v0.length false),(1,Iz v1),(2,Iz v2),(3,Iz v3),(8,AV.bool true),(9,AV.bool true)]) (fun _=>[(0,Gi v0)]) 1 k (()) hF (by simp) (by simp) (by simp) ?_;rintro (_|n1) ⟨⟩ hF K111 hK111
 ·try dsimp only at hF
  rw [Aar.L1] at hF; cases hF
 try dsimp only at hF
 rw [Aar.L1] at hF;refine AW.block ?_;refine SQ [] [none,none,none,none] fun _ _ g r=>?_;try simp
 and_intros <;> first | exact GK g | apply r | omega | (simp [maxLen] <;> omega)
 refine WK [(0,AV.slc 0 0 1 v0.length false),(1,Iz v1),(2,Iz v2),(3,Iz v3),(8,AV.bool true),(9,AV.bool true),(10,Iz (IntKind.wrap .i64 (v2-v1)))] [(0,Gi v0)] 1 (by simp) (by simp) ?_;refine AW.seq fun K115 hK115=>?_;refine SQ [] [none,none] fun _ _ g r=>?_;try simp
 and_intros <;> first | exact GK g | apply r | omega | (simp [maxLen] <;> omega)
 refine WK [(0,AV.slc 0 0 1 v0.length false),(1,Iz v1),(2,Iz v2),(3,Iz v3),(8,AV.bool true),(9,AV.bool true),(10,Iz (IntKind.wrap .i64 (v2-v1))),(23,AV.bool (decide (IntKind.wrap .i64 (v2-v1)≤12)))] [(0,Gi v0)] 1 (by simp) (by simp) ?_;by_cases h1 : IntKind.wrap .i64 (v2-v1)≤12
 ·replace hF:=AaX h1 hF;have h1_:=h1;try simp at h1_
  refine CT (by simp [h1,h1_] <;> omega) ?_;refine SQ [] [none,none,none,none] fun _ _ g r=>?_;try simp [h1,h1_]
  and_intros
  try any_goals first | omega | (simp [h1,h1_,maxLen] <;> omega)
  obtain ⟨v5,h2,hF⟩:=AaO hF;obtain ⟨h3,hF⟩:=AaZ hF;refine Aa1 (Acm k _ _ _ _ h2) (by simp) [0] [] [0] rfl (.cons (.same (by simp [h1,h1_])) (.cons (.same (by simp [h1,h1_])) (.cons (.same (by simp [h1,h1_])) .nil))) (by simp [h1,h1_]) (by decide) (by simp) (by simp) (.inl rfl) (by simp) (by simp) ?_;have F1:=A3 h1 h1_ h3;try simp [F1]
  and_intros <;> first | exact GK g | apply r | omega | (simp [maxLen,F1] <;> omega)
  refine WK [] [(0,Gi v5)] 1 (by simp [F1]) (by simp [F1]) ?_;simp only [Option.some.injEq] at hF;subst hF;refine AW.ret (hQ _ _ _ ?_ (AaF ?_)).1
  ·simp [Try.f116,F1]
  ·simp [F1]
 ·replace hF:=AaY h1 hF;have h1_:=h1;try simp at h1_
  refine CF (by simp [h1,h1_] <;> omega) ?_;refine AW.skip ?_;refine hK115 _ _ _ ?_;refine AW.seq fun K120 hK120=>?_;refine SQ [] [none,none] fun _ _ g r=>?_;try simp [h1,h1_]
  and_intros <;> first | exact GK g | apply r | omega | (simp [h1,h1_,maxLen] <;> omega)
  refine WK [(0,AV.slc 0 0 1 v0.length false),(1,Iz v1),(2,Iz v2),(3,Iz v3),(8,AV.bool true),(9,AV.bool true),(10,Iz (IntKind.wrap .i64 (v2-v1))),(29,AV.bool (v3==0))] [(0,Gi v0)] 1 (by simp [h1,h1_]) (by simp [h1,h1_]) ?_;by_cases h4 : v3=0
  ·replace hF:=AaX h4 hF;cases hF
  ·replace hF:=AaY h4 hF;have h4_:=Abo h4;have h4__:=Abt h4;have F2:=A5 h1 h1_ h4 h4_ h4__;refine CF (by simp [F2] <;> omega) ?_;refine AW.skip ?_;refine hK120 _ _ _ ?_;refine AW.seq fun K124 hK124=>?_;refine SQ [] [none,none] fun _ _ g r=>?_;try simp [F2]
   and_intros <;> first | exact GK g | apply r | omega | (simp [maxLen,F2] <;> omega)
   refine WK [(0,AV.slc 0 0 1 v0.length false),(1,Iz v1),(2,Iz v2),(3,Iz v3),(8,AV.bool true),(9,AV.bool true),(10,Iz (IntKind.wrap .i64 (v2-v1))),(35,AV.bool false)] [(0,Gi v0)] 1 (by simp [F2]) (by simp [F2]) ?_;refine CF (by simp [F2]) ?_;cases hF
theorem AeR (k : Nat) (v0 : (List Int)) (v1 : (List Int)) (hF : Abv k v0=some v1) :
 Aa9 Try.prog 112 [AV.slc 0 0 1 v0.length false] [Gi v0] (AV.tup []) [some (Gi v1)]:=by
 unfold Abv at hF;refine EN Try.func112 ?_;intro c0 w0 Q h0 hQ
 refine WK [(0,AV.slc 0 0 1 v0.length false)] [(0,Gi v0)] 1 (by simp) (by simp) ?_;refine SQ [] [none,none,none] fun _ _ g r=>?_;try simp
 and_intros <;> first | exact GK g | apply r | omega | (simp [maxLen] <;> omega)
 refine WK [(0,AV.slc 0 0 1 v0.length false),(2,Iz (v0.length : Int))] [(0,Gi v0)] 1 (by simp) (by simp) ?_;refine RG [] [none,none,none,none,none,none] fun _ _ g r=>?_;try simp
 and_intros
 try any_goals first | omega | (simp [maxLen] <;> omega)
 obtain ⟨v2,h1,hF⟩:=AaO hF;refine AC (Aga k _ _ h1) (.cons (.same (by simp)) .nil) ?_;try simp
 and_intros
 try any_goals first | omega | (simp [maxLen] <;> omega)
 obtain ⟨v3,h2,hF⟩:=AaO hF;obtain ⟨h3,hF⟩:=AaZ hF;refine Aa1 (AdR k _ _ _ _ _ h2) (by simp) [0] [] [0] rfl (.cons (.same (by simp)) (.cons (.same (by simp)) (.cons (.same (by simp)) (.cons (.same (by simp)) .nil)))) (by simp) (by decide) (by simp) (by simp) (.inl rfl) (by simp) (by simp) ?_;try simp [h3]
 and_intros <;> first | exact GK g | apply r | omega | (simp [h3,maxLen] <;> omega)
 simp only [Option.some.injEq] at hF;subst hF;refine (hQ _ _ _ ?_ (AaF ?_)).2
 ·simp [Try.f112,h3]
 ·simp [h3]
theorem Ajb (k : Nat) (v0 : Int) (v1 : (List AaA)) (v2 : (List Int)) (v3 : Int) (v4 : (List Int)) (hF : AbT k v0 v1 v2 v3=some v4) :
 Aa9 Try.prog 99 [AV.agg [AV.int .i64 v0,Q2 v1,AV.lst false false (List.map (AV.int .i64) v2)],AV.int .i64 v3] [] (AV.lst false false (List.map (AV.int .i64) v4)) []:=by
 unfold AbT at hF;refine EN Try.func99 ?_;intro c0 w0 Q h0 hQ
 refine WK [(0,AV.agg [Iz v0,Q2 v1,Lz v2]),(1,Iz v3)] [] 0 (by simp) (by simp) ?_;refine SQ [] [none,none] fun _ _ g r=>?_;try simp
 and_intros <;> first | exact GK g | apply r | omega | (simp [maxLen] <;> omega)
 refine WK [(1,Iz v3),(2,AV.ptr 0 0)] [(0,.cells [Iz v0,Q2 v1,Lz v2])] 1 (by simp) (by simp) ?_;refine SQ [] [none] fun _ _ g r=>?_;try simp
 and_intros <;> first | exact GK g | apply r | omega | (simp [maxLen] <;> omega)
 refine WK [(1,Iz v3),(2,AV.ptr 0 0),(5,AV.lst true true (List.map (AV.int .i64) ([] : List Int)))] [(0,.cells [Iz v0,Q2 v1,Lz v2])] 1 (by simp) (by simp) ?_;refine AW.seq fun K134 hK134=>?_;refine SQ [] [none,none,none,none] fun _ _ g r=>?_;try simp
 and_intros <;> first | exact GK g | apply r | omega | (simp [maxLen] <;> omega)
 refine WK [(1,Iz v3),(5,AV.lst true true (List.map (AV.int .i64) ([] : List Int))),(9,Q2 v1),(10,Iz (v1.length : Int)),(11,Iz 0)] [] 1 (by simp) (by simp) ?_;refine AW.block ?_;refine AW.own' 5 1 true (by simp) (by decide) ?_;refine RM h0 [(0,1)] [(1,Iz v3),(5,AV.slc 0 0 1 (([] : List Int).length) false),(9,Q2 v1),(10,Iz (v1.length : Int)),(11,Iz 0)] [(0,Gi ([] : List Int))] 1 (by simp) (by simp) ?_;refine AW.loopF (α:=(Int×(List Int))) (fun n (v5,v6)=>AbT.L1 k v1 v3 n v5 v6=some v4) (fun (v5,v6)=>[(1,Iz v3),(5,AV.slc 0 0 1 v6.length false),(9,Q2 v1),(10,Iz (v1.length : Int)),(11,Iz v5)]) (fun (v5,v6)=>[(0,Gi v6)]) 1 k ((0,([] : List Int))) hF (by simp) (by simp) (by simp) ?_;rintro (_|n1) ⟨v5,v6⟩ hF K166 hK166
 ·try dsimp only at hF
  rw [AbT.L1] at hF; cases hF
 try dsimp only at hF
 rw [AbT.L1] at hF;refine SQ [] [none] fun _ _ g r=>?_;try simp
 and_intros <;> first | exact GK g | apply r | omega | (simp [maxLen] <;> omega)
 refine WK [(1,Iz v3),(5,AV.slc 0 0 1 v6.length false),(9,Q2 v1),(10,Iz (v1.length : Int)),(11,Iz v5),(12,AV.bool (decide (v5<(v1.length : Int))))] [(0,Gi v6)] 1 (by simp) (by simp) ?_;refine AW.seq fun K168 hK168=>?_;by_cases h1 : v5<(v1.length : Int)
 ·replace hF:=AaX h1 hF;have h1_:=h1;try simp at h1_
  refine CT (by simp [h1,h1_] <;> omega) ?_;refine AW.skip ?_;refine hK168 _ _ _ ?_;refine AW.midF (α:=(List Int)) (fun v7=>AbT.J2 k v5 (fun v5_ v6_=>AbT.L1 k v1 v3 n1 v5_ v6_) v7=some v4) (fun v7=>[(1,Iz v3),(5,AV.slc 0 0 1 v7.length false),(9,Q2 v1),(10,Iz (v1.length : Int)),(11,Iz v5)]) (fun v7=>[(0,Gi v7)]) 1 (fun K173 hK173=>?_) ?_
  ·refine AW.block ?_;refine SQ [] [none,none,none,none] fun _ _ g r=>?_;obtain ⟨v8,h2,h3,h4,hF⟩:=Aaa hF;have h4_:=Aao h4;try simp at h4_
   have h3_:=h3;try simp at h3_
   have F1:=A7 h1 h1_ h2 h3 h4 h4_ h3_;try simp [F1]
   and_intros <;> first | exact GK g | apply r | omega | (simp [maxLen,F1] <;> omega)
   refine WK [(1,Iz v3),(5,AV.slc 0 0 1 v6.length false),(7,AV.ptr 1 0),(9,Q2 v1),(10,Iz (v1.length : Int)),(11,Iz v5)] [(0,Gi v6),(1,.cells [Iz v8.From,Iz v8.To,Iz v8.Level])] 2 (by simp [F1]) (by simp [F1]) ?_;refine SQ [] [none,none,none,none] fun _ _ g r=>?_;try simp [F1]
   and_intros <;> first | exact GK g | apply r | omega | (simp [maxLen,F1] <;> omega)
   refine WK [(1,Iz v3),(5,AV.slc 0 0 1 v6.length false),(7,AV.ptr 1 0),(9,Q2 v1),(10,Iz (v1.length : Int)),(11,Iz v5),(18,AV.bool (v8.From==v3))] [(0,Gi v6),(1,.cells [Iz v8.From,Iz v8.To,Iz v8.Level])] 2 (by simp [F1]) (by simp [F1]) ?_;by_cases h5 : v8.From=v3
   ·replace hF:=AaX h5 hF;have h5q : v8.From=v3:=h5;have h5_:=Abx h5q;have h5__:=Abw h5q;refine CT (by simp [F1,h5_,h5__] <;> omega) ?_;refine RG [] [none,none,none,none,none,none] fun _ _ g r=>?_;obtain ⟨h6,hF⟩:=AaZ hF;have h6_:=h6;try simp at h6_
    have F2:=A4 F1 h5_ h5__ h6;try simp [F2]
    and_intros <;> first | exact GK g | apply r | omega | (simp [maxLen,F2] <;> omega)
    refine hK173 _ _ _ ?_;refine RN h0 [(0,2)] [(1,Iz v3),(5,AV.slc 0 0 1 ((v6++([v8.To] : List Int)).length) false),(9,Q2 v1),(10,Iz (v1.length : Int)),(11,Iz v5)] [(0,Gi (v6++([v8.To] : List Int)))] 1 (by simp [F2] <;> omega) (by simp [F2]) ?_;exact JN (v6++([v8.To] : List Int)) hF (by simp [F2]) (by simp [F2])
   ·replace hF:=AaY h5 hF;have h5_:=Abo h5;have h5__:=Abt h5;have F3:=A4 F1 h5 h5_ h5__;refine CF (by simp [F3] <;> omega) ?_;refine AW.skip ?_;refine hK173 _ _ _ ?_;refine RN h0 [(0,0)] [(1,Iz v3),(5,AV.slc 0 0 1 v6.length false),(9,Q2 v1),(10,Iz (v1.length : Int)),(11,Iz v5)] [(0,Gi v6)] 1 (by simp [F3]) (by simp [F3]) ?_;exact JN (v6) hF (by simp [F3]) (by simp [F3])
  ·rintro v7 hF
   try dsimp only at hF
   unfold AbT.J2 at hF;refine RG [] [none,none] fun _ _ g r=>?_;try simp [h1,h1_]
   and_intros <;> first | exact GK g | apply r | omega | (simp [h1,h1_,maxLen] <;> omega)
   refine hK166 _ _ _ ?_;exact NX (k':=n1) ((IntKind.wrap .i64 (v5+1),v7)) hF (by simp [h1,h1_]) (by simp [h1,h1_])
 ·replace hF:=AaY h1 hF;have h1_:=h1;try simp at h1_
  refine CF (by simp [h1,h1_] <;> omega) ?_;refine AW.exit ?_;try simp
  refine hK134 _ _ _ ?_;refine SQ [] [none,none] fun _ _ g r=>?_;try simp [h1,h1_]
  and_intros
  try any_goals first | omega | (simp [h1,h1_,maxLen] <;> omega)
  obtain ⟨v9,h7,hF⟩:=AaO hF;obtain ⟨h8,hF⟩:=AaZ hF;refine Aa1 (AeR k _ _ h7) (by simp) [0] [] [0] rfl (.cons (.same (by simp [h1,h1_])) .nil) (by simp [h1,h1_]) (by decide) (by simp) (by simp) (.inl rfl) (by simp) (by simp) ?_;have F4:=A3 h1 h1_ h8;try simp [F4]
  and_intros <;> first | exact GK g | apply r | omega | (simp [maxLen,F4] <;> omega)
  refine WK [(5,AV.slc 0 0 1 v9.length false)] [(0,Gi v9)] 1 (by simp [F4]) (by simp [F4]) ?_;refine SQ [] [none,none] fun _ _ g r=>?_;try simp [F4]
  and_intros <;> first | exact GK g | apply r | omega | (simp [maxLen,F4] <;> omega)
  refine WK [(4,AV.slc 0 0 1 v9.length false)] [(0,Gi v9)] 1 (by simp [F4]) (by simp [F4]) ?_;refine WK [(4,AV.slc 0 0 1 v9.length false)] [(0,Gi v9)] 1 (by simp [F4]) (by simp [F4]) ?_;refine AW.frz 0 (o:=Gi v9) (by simp [F4]) rfl [(4,Lz v9)] [] ⟨(.l (by simp) (by simp) (by simp) (by simp)),trivial⟩ trivial ?_;simp only [Option.some.injEq] at hF;subst hF;refine AW.ret (hQ _ _ _ ?_ (AaF ?_)).1
  ·simp [Try.f99,F4]
  ·simp [F4]
theorem AeH (k : Nat) (v0 : Int) (v1 : (List Int)) (v2 : Bool) (hF : AcM k v0 v1=some v2) :
 Aa9 Try.prog 101 [AV.int .i64 v0,AV.ptr 0 0] [.cells [AV.slc 1 0 1 v1.length false],Ci v1] (AV.bool v2) [some (.cells [AV.slc 1 0 1 v1.length false]),some (Ci v1)]:=by
 unfold AcM at hF;refine EN Try.func101 ?_;intro c0 w0 Q h0 hQ
 refine WK [(0,Iz v0),(1,AV.ptr 0 0)] [(0,.cells [AV.slc 1 0 1 v1.length false]),(1,Ci v1)] 2 (by simp) (by simp) ?_;refine SQ [] [none] fun _ _ g r=>?_;try simp
 and_intros <;> first | exact GK g | apply r | omega | (simp [maxLen] <;> omega)
 refine WK [(0,Iz v0),(1,AV.ptr 0 0)] [(0,.cells [AV.slc 1 0 1 v1.length false]),(1,Ci v1)] 2 (by simp) (by simp) ?_;refine SQ [] [none,none,none,none,none,none,none,some (10,false),some (10,false),some (10,false),some (10,false),some (10,false),none,none] fun _ _ g r=>?_;try simp
 and_intros
 try any_goals first | omega | (simp [maxLen] <;> omega)
 obtain ⟨v3,h1,hF⟩:=AaO hF;refine AC (Abr k _ _ _ _ h1) (.cons (.same (by simp)) (.cons (.same (by simp)) (.cons (.same (by simp)) .nil))) ?_;by_cases h2 : (!v3)=true
 ·replace hF:=AaX h2 hF;have h2_:=h2;try simp at h2_
  try simp [h2,h2_]
  and_intros <;> first | exact GK g | apply r | omega | (simp [h2,h2_,maxLen] <;> omega)
  refine WK [(3,AV.bool true)] [(0,.cells [AV.slc 1 0 1 v1.length false]),(1,Ci v1)] 2 (by simp [h2,h2_]) (by simp [h2,h2_]) ?_;simp only [Option.some.injEq] at hF;subst hF;refine AW.ret (hQ _ _ _ ?_ (AaF ?_)).1
  ·simp [Try.f101,h2,h2_]
  ·simp [h2,h2_]
 ·replace hF:=AaY h2 hF;have h2_:=h2;try simp at h2_
  obtain ⟨⟨h3,h4⟩,hF⟩:=AaZ hF;have h4_:=AbH h4;obtain ⟨v4,h5,h6,h7,hF⟩:=Aaa hF;have h7_:=Aao h7;try simp at h7_
  have h6_:=h6;try simp at h6_
  have F1:=A9 h2 h2_ h3 h4 h4_ h5 h6 h7 (A2 h7_ h6_);try simp [F1]
  and_intros <;> first | exact GK g | apply r | omega | (simp [maxLen,F1] <;> omega)
  refine WK [(3,AV.bool (decide (0≤v4)))] [(0,.cells [AV.slc 1 0 1 v1.length false]),(1,Ci v1)] 2 (by simp [F1]) (by simp [F1]) ?_;simp only [Option.some.injEq] at hF;subst hF;refine AW.ret (hQ _ _ _ ?_ (AaF ?_)).1
  ·simp [Try.f101,F1]
  ·simp [F1]
theorem Ac0 (k : Nat) (v0 : (List Int)) (v1 : (List Int)) (v2 : Int) (hF : Aac k v0 v1=some v2) :
 Aa9 Try.prog 88 [AV.lst false false (List.map (AV.int .i64) v0),AV.fn 101 [AV.ptr 0 0]] [.cells [AV.slc 1 0 1 v1.length false],Ci v1] (AV.int .i64 v2) [some (.cells [AV.slc 1 0 1 v1.length false]),some (Ci v1)]:=by
 unfold Aac at hF;refine EN Try.func88 ?_;intro c0 w0 Q h0 hQ
 refine WK [(0,Lz v0),(1,AV.fn 101 [AV.ptr 0 0])] [(0,.cells [AV.slc 1 0 1 v1.length false]),(1,Ci v1)] 2 (by simp) (by simp) ?_;refine SQ [] [none] fun _ _ g r=>?_;try simp
 and_intros <;> first | exact GK g | apply r | omega | (simp [maxLen] <;> omega)
 refine WK [(0,Lz v0),(1,AV.fn 101 [AV.ptr 0 0])] [(0,.cells [AV.slc 1 0 1 v1.length false]),(1,Ci v1)] 2 (by simp) (by simp) ?_;refine AW.seq fun K131 hK131=>?_;refine SQ [] [none,none,none] fun _ _ g r=>?_;try simp
 and_intros <;> first | exact GK g | apply r | omega | (simp [maxLen] <;> omega)
 refine WK [(0,Lz v0),(1,AV.fn 101 [AV.ptr 0 0]),(7,Iz (v0.length : Int)),(8,Iz 0)] [(0,.cells [AV.slc 1 0 1 v1.length false]),(1,Ci v1)] 2 (by simp) (by simp) ?_;refine AW.block ?_;refine AW.loopF (α:=Int) (fun n v3=>Aac.L1 k v0 v1 n v3=some v2) (fun v3=>[(0,Lz v0),(1,AV.fn 101 [AV.ptr 0 0]),(7,Iz (v0.length : Int)),(8,Iz v3)]) (fun v3=>[(0,.cells [AV.slc 1 0 1 v1.length false]),(1,Ci v1)]) 2 k (0) hF (by simp) (by simp) (by simp) ?_;rintro (_|n1) v3 hF K163 hK163
 ·try dsimp only at hF
  rw [Aac.L1] at hF; cases hF
 try dsimp only at hF
 rw [Aac.L1] at hF;refine SQ [] [none] fun _ _ g r=>?_;try simp
 and_intros <;> first | exact GK g | apply r | omega | (simp [maxLen] <;> omega)
 refine WK [(0,Lz v0),(1,AV.fn 101 [AV.ptr 0 0]),(7,Iz (v0.length : Int)),(8,Iz v3),(9,AV.bool (decide (v3<(v0.length : Int))))] [(0,.cells [AV.slc 1 0 1 v1.length false]),(1,Ci v1)] 2 (by simp) (by simp) ?_;refine AW.seq fun K165 hK165=>?_;by_cases h1 : v3<(v0.length : Int)
 ·replace hF:=AaX h1 hF;have h1_:=h1;try simp at h1_
  refine CT (by simp [h1,h1_] <;> omega) ?_;refine AW.skip ?_;refine hK165 _ _ _ ?_;refine AW.seq fun K169 hK169=>?_;refine AW.block ?_;refine SQ [] [none,none] fun _ _ g r=>?_;try simp [h1,h1_]
  and_intros <;> first | exact GK g | apply r | omega | (simp [h1,h1_,maxLen] <;> omega)
  refine WK [(0,Lz v0),(1,AV.fn 101 [AV.ptr 0 0]),(5,Iz v3),(7,Iz (v0.length : Int)),(8,Iz v3)] [(0,.cells [AV.slc 1 0 1 v1.length false]),(1,Ci v1)] 2 (by simp [h1,h1_]) (by simp [h1,h1_]) ?_;refine SQ [] [none,none,none,none,none,none] fun _ _ g r=>?_;obtain ⟨v4,h2,h3,h4,hF⟩:=Aaa hF;have h4_:=Aao h4;try simp at h4_
  have h3_:=h3;try simp at h3_
  have F1:=A7 h1 h1_ h2 h3 h4 h4_ h3_;try simp [F1]
  and_intros
  try any_goals first | omega | (simp [maxLen,F1] <;> omega)
  obtain ⟨v5,h5,hF⟩:=AaO hF;refine Aa1 (AeH k _ _ _ h5) (by simp) [0,1] [] [] rfl (.cons (.same (by simp [F1])) (.cons (.same (by simp [F1])) .nil)) (by simp [F1]) (by decide) (by simp) (by simp) (.inl rfl) (by simp) (by simp) ?_;try simp [F1]
  and_intros <;> first | exact GK g | apply r | omega | (simp [maxLen,F1] <;> omega)
  refine WK [(0,Lz v0),(1,AV.fn 101 [AV.ptr 0 0]),(5,Iz v3),(7,Iz (v0.length : Int)),(8,Iz v3),(16,AV.bool v5)] [(0,.cells [AV.slc 1 0 1 v1.length false]),(1,Ci v1)] 2 (by simp [F1]) (by simp [F1]) ?_;by_cases h6 : v5=true
  ·replace hF:=AaX h6 hF;have h6_:=h6;try simp at h6_
   have F2:=A3 F1 h6 h6_;refine CT (by simp [F2] <;> omega) ?_;refine SQ [] [none,none] fun _ _ g r=>?_;try simp [F2]
   and_intros <;> first | exact GK g | apply r | omega | (simp [maxLen,F2] <;> omega)
   refine WK [(4,Iz v3)] [(0,.cells [AV.slc 1 0 1 v1.length false]),(1,Ci v1)] 2 (by simp [F2]) (by simp [F2]) ?_;simp only [Option.some.injEq] at hF;subst hF;refine AW.ret (hQ _ _ _ ?_ (AaF ?_)).1
   ·simp [Try.f88,F2]
   ·simp [F2]
  ·replace hF:=AaY h6 hF;have h6_:=h6;try simp at h6_
   have F3:=A3 F1 h6 h6_;refine CF (by simp [F3] <;> omega) ?_;refine AW.skip ?_;refine hK169 _ _ _ ?_;refine RG [] [none,none] fun _ _ g r=>?_;try simp [F3]
   and_intros <;> first | exact GK g | apply r | omega | (simp [maxLen,F3] <;> omega)
   refine hK163 _ _ _ ?_;exact NX (k':=n1) (IntKind.wrap .i64 (v3+1)) hF (by simp [F3]) (by simp [F3])
 ·replace hF:=AaY h1 hF;have h1_:=h1;try simp at h1_
  refine CF (by simp [h1,h1_] <;> omega) ?_;refine AW.exit ?_;try simp
  refine hK131 _ _ _ ?_;refine SQ [] [none] fun _ _ g r=>?_;try simp [h1,h1_]
  and_intros <;> first | exact GK g | apply r | omega | (simp [h1,h1_,maxLen] <;> omega)
  refine WK [(4,Iz (-1))] [(0,.cells [AV.slc 1 0 1 v1.length false]),(1,Ci v1)] 2 (by simp [h1,h1_]) (by simp [h1,h1_]) ?_;simp only [Option.some.injEq] at hF;subst hF;refine AW.ret (hQ _ _ _ ?_ (AaF ?_)).1
  ·simp [Try.f88,h1,h1_]
  ·simp [h1,h1_]
theorem Acn (k : Nat) (v0 : (List Int)) (v1 : (List Int)) (v2 : (List Int)) (hF : AaP k v0 v1=some v2) :
 Aa9 Try.prog 100 [AV.slc 0 0 1 v0.length false,AV.fn 101 [AV.ptr 1 0]] [Gi v0,.cells [AV.slc 2 0 1 v1.length false],Ci v1] (AV.lst false false (List.map (AV.int .i64) v2)) [none,some (.cells [AV.slc 2 0 1 v1.length false]),some (Ci v1)]:=by
 unfold AaP at hF;refine EN Try.func100 ?_;intro c0 w0 Q h0 hQ
 refine WK [(0,AV.slc 0 0 1 v0.length false),(1,AV.fn 101 [AV.ptr 1 0])] [(0,Gi v0),(1,.cells [AV.slc 2 0 1 v1.length false]),(2,Ci v1)] 3 (by simp) (by simp) ?_;refine SQ [] [none] fun _ _ g r=>?_;try simp
 and_intros <;> first | exact GK g | apply r | omega | (simp [maxLen] <;> omega)
 refine WK [(0,AV.slc 0 0 1 v0.length false),(1,AV.fn 101 [AV.ptr 1 0])] [(0,Gi v0),(1,.cells [AV.slc 2 0 1 v1.length false]),(2,Ci v1)] 3 (by simp) (by simp) ?_;refine SQ [] [none,none,none,none] fun _ _ g r=>?_;try simp
 and_intros
 try any_goals first | omega | (simp [maxLen] <;> omega)
 obtain ⟨v3,h1,hF⟩:=AaO hF;refine Aa1 (Ac0 k _ _ _ h1) (by simp) [1,2] [0] [] rfl (.cons (Coe.l (o:=Gi v0) (by simp) rfl (by simp) (by simp [AdK]) (by simp) (by simp)) (.cons (.same (by simp)) .nil)) (by simp) (by decide) (by simp) (by simp) (.inr ⟨by simp,by simp⟩) (by simp) (by simp) ?_;try simp
 and_intros <;> first | exact GK g | apply r | omega | (simp [maxLen] <;> omega)
 refine WK [(0,AV.slc 0 0 1 v0.length false),(1,AV.fn 101 [AV.ptr 1 0]),(5,Iz v3)] [(0,Gi v0),(1,.cells [AV.slc 2 0 1 v1.length false]),(2,Ci v1)] 3 (by simp) (by simp) ?_;refine AW.seq fun K123 hK123=>?_;refine SQ [] [none,none] fun _ _ g r=>?_;try simp
 and_intros <;> first | exact GK g | apply r | omega | (simp [maxLen] <;> omega)
 refine WK [(0,AV.slc 0 0 1 v0.length false),(1,AV.fn 101 [AV.ptr 1 0]),(5,Iz v3),(12,AV.bool (v3==(-1)))] [(0,Gi v0),(1,.cells [AV.slc 2 0 1 v1.length false]),(2,Ci v1)] 3 (by simp) (by simp) ?_;by_cases h2 : v3=(-1)
 ·replace hF:=AaX h2 hF;have h2q : v3=(-1):=h2;have h2_:=Abx h2q;have h2__:=Abw h2q;have F1:=A3 h2_ h2__ h2q;refine CT (by simp [F1] <;> omega) ?_;refine SQ [] [none,none] fun _ _ g r=>?_;try simp [F1]
  and_intros <;> first | exact GK g | apply r | omega | (simp [maxLen,F1] <;> omega)
  refine WK [(4,AV.slc 0 0 1 v0.length false)] [(0,Gi v0),(1,.cells [AV.slc 2 0 1 v1.length false]),(2,Ci v1)] 3 (by simp [F1]) (by simp [F1]) ?_;refine WK [(4,AV.slc 0 0 1 v0.length false)] [(0,Gi v0),(1,.cells [AV.slc 2 0 1 v1.length false]),(2,Ci v1)] 3 (by simp [F1]) (by simp [F1]) ?_;refine AW.frz 0 (o:=Gi v0) (by simp [F1]) rfl [(4,Lz v0)] [] ⟨(.l (by simp) (by simp) (by simp) (by simp)),trivial⟩ trivial ?_;simp only [Option.some.injEq] at hF;subst hF;refine AW.ret (hQ _ _ _ ?_ (AaF ?_)).1
  ·simp [Try.f100,F1]
  ·simp [F1]
 ·replace hF:=AaY h2 hF;have h2_:=Abo h2;have h2__:=Abt h2;have F2:=A3 h2 h2_ h2__;refine CF (by simp [F2] <;> omega) ?_;refine AW.skip ?_;refine hK123 _ _ _ ?_;refine AW.seq fun K180 hK180=>?_;refine SQ [] [none,none,none] fun _ _ g r=>?_;try simp [F2]
  and_intros <;> first | exact GK g | apply r | omega | (simp [maxLen,F2] <;> omega)
  refine WK [(0,AV.slc 0 0 1 v0.length false),(1,AV.fn 101 [AV.ptr 1 0]),(5,Iz v3),(6,Iz (IntKind.wrap .i64 (v3+1)))] [(0,Gi v0),(1,.cells [AV.slc 2 0 1 v1.length false]),(2,Ci v1)] 3 (by simp [F2]) (by simp [F2]) ?_;refine AW.block ?_;refine AW.loopF (α:=(Int×Int×(List Int))) (fun n (v4,v5,v6)=>AaP.L1 k v1 n v4 v5 v6=some v2) (fun (v4,v5,v6)=>[(0,AV.slc 0 0 1 v6.length false),(1,AV.fn 101 [AV.ptr 1 0]),(5,Iz v4),(6,Iz v5)]) (fun (v4,v5,v6)=>[(0,Gi v6),(1,.cells [AV.slc 2 0 1 v1.length false]),(2,Ci v1)]) 3 k ((v3,IntKind.wrap .i64 (v3+1),v0)) hF (by simp [F2]) (by simp [F2]) (by simp) ?_;rintro (_|n1) ⟨v4,v5,v6⟩ hF K221 hK221
  ·try dsimp only at hF
   rw [AaP.L1] at hF; cases hF
  try dsimp only at hF
  rw [AaP.L1] at hF;refine AW.seq fun K223 hK223=>?_;refine SQ [] [none,none,none,none] fun _ _ g r=>?_;try simp [F2]
  and_intros <;> first | exact GK g | apply r | omega | (simp [maxLen,F2] <;> omega)
  refine WK [(0,AV.slc 0 0 1 v6.length false),(1,AV.fn 101 [AV.ptr 1 0]),(5,Iz v4),(6,Iz v5),(19,AV.bool (decide (v5<(v6.length : Int))))] [(0,Gi v6),(1,.cells [AV.slc 2 0 1 v1.length false]),(2,Ci v1)] 3 (by simp [F2]) (by simp [F2]) ?_;by_cases h3 : v5<(v6.length : Int)
  ·replace hF:=AaX h3 hF;have h3_:=h3;try simp at h3_
   have F3:=A3 F2 h3 h3_;refine CT (by simp [F3] <;> omega) ?_;refine AW.skip ?_;refine hK223 _ _ _ ?_;refine AW.midF (α:=((List Int)×Int)) (fun (v7,v8)=>AaP.J2 k v5 (fun v4_ v5_ v6_=>AaP.L1 k v1 n1 v4_ v5_ v6_) v7 v8=some v2) (fun (v7,v8)=>[(0,AV.slc 0 0 1 v7.length false),(1,AV.fn 101 [AV.ptr 1 0]),(5,Iz v8),(6,Iz v5)]) (fun (v7,v8)=>[(0,Gi v7),(1,.cells [AV.slc 2 0 1 v1.length false]),(2,Ci v1)]) 3 (fun K230 hK230=>?_) ?_
   ·refine AW.block ?_;refine SQ [] [none,none,none,none,none] fun _ _ g r=>?_;obtain ⟨⟨h4,h5⟩,hF⟩:=AaZ hF;have h5_:=AbH h5;obtain ⟨v9,h6,h7,h8,hF⟩:=Aaa hF;have h8_:=Aao h8;try simp at h8_
    have h7_:=h7;try simp at h7_
    have F4:=A9 F3 h4 h5 h5_ h6 h7 h8 h8_ h7_;try simp [F4]
    and_intros <;> first | exact GK g | apply r | omega | (simp [maxLen,F4] <;> omega)
    refine WK [(0,AV.slc 0 0 1 v6.length false),(1,AV.fn 101 [AV.ptr 1 0]),(5,Iz v4),(6,Iz v5),(7,Iz v9)] [(0,Gi v6),(1,.cells [AV.slc 2 0 1 v1.length false]),(2,Ci v1)] 3 (by simp [F4]) (by simp [F4]) ?_;refine SQ [] [none,none,none,none] fun _ _ g r=>?_;try simp [F4]
    and_intros
    try any_goals first | omega | (simp [maxLen,F4] <;> omega)
    obtain ⟨v10,h9,hF⟩:=AaO hF;refine Aa1 (AeH k _ _ _ h9) (by simp) [1,2] [] [] rfl (.cons (.same (by simp [F4])) (.cons (.same (by simp [F4])) .nil)) (by simp [F4]) (by decide) (by simp) (by simp) (.inl rfl) (by simp) (by simp) ?_;try simp [F4]
    and_intros <;> first | exact GK g | apply r | omega | (simp [maxLen,F4] <;> omega)
    refine WK [(0,AV.slc 0 0 1 v6.length false),(1,AV.fn 101 [AV.ptr 1 0]),(5,Iz v4),(6,Iz v5),(7,Iz v9),(29,AV.bool (!v10))] [(0,Gi v6),(1,.cells [AV.slc 2 0 1 v1.length false]),(2,Ci v1)] 3 (by simp [F4]) (by simp [F4]) ?_;by_cases h10 : (!v10)=true
    ·replace hF:=AaX h10 hF;have h10_:=h10;try simp at h10_
     have F5:=A3 F4 h10 h10_;refine CT (by simp [F5] <;> omega) ?_;refine SQ [] [none,none,none,none,none] fun _ _ g r=>?_;obtain ⟨⟨h11,h12⟩,hF⟩:=AaZ hF;have h12_:=AbH h12;have F6:=A4 F5 h11 h12 h12_;try simp [F6]
     and_intros <;> first | exact GK g | apply r | omega | (simp [maxLen,F6] <;> omega)
     refine WK [(0,AV.slc 0 0 1 ((v6.set (v4).toNat v9).length) false),(1,AV.fn 101 [AV.ptr 1 0]),(5,Iz v4),(6,Iz v5)] [(0,Gi (v6.set (v4).toNat v9)),(1,.cells [AV.slc 2 0 1 v1.length false]),(2,Ci v1)] 3 (by simp [F6]) (by simp [F6]) ?_;refine RG [] [none,none,none] fun _ _ g r=>?_;try simp [F6]
     and_intros <;> first | exact GK g | apply r | omega | (simp [maxLen,F6] <;> omega)
     refine hK230 _ _ _ ?_;exact JN ((v6.set (v4).toNat v9,IntKind.wrap .i64 (v4+1))) hF (by simp [F6]) (by simp [F6])
    ·replace hF:=AaY h10 hF;have h10_:=h10;try simp at h10_
     have F7:=A3 F4 h10 h10_;refine CF (by simp [F7] <;> omega) ?_;refine AW.skip ?_;refine hK230 _ _ _ ?_;exact JN ((v6,v4)) hF (by simp [F7]) (by simp [F7])
   ·rintro ⟨v7,v8⟩ hF
    try dsimp only at hF
    unfold AaP.J2 at hF;refine RG [] [none,none,none] fun _ _ g r=>?_;try simp [F3]
    and_intros <;> first | exact GK g | apply r | omega | (simp [maxLen,F3] <;> omega)
    refine hK221 _ _ _ ?_;exact NX (k':=n1) ((v8,IntKind.wrap .i64 (v5+1),v7)) hF (by simp [F3]) (by simp [F3])
  ·replace hF:=AaY h3 hF;have h3_:=h3;try simp at h3_
   have F8:=A3 F2 h3 h3_;refine CF (by simp [F8] <;> omega) ?_;refine AW.exit ?_;try simp
   refine hK180 _ _ _ ?_;refine SQ [] [none,none,none,none] fun _ _ g r=>?_;obtain ⟨⟨h13,h14⟩,hF⟩:=AaZ hF;have h13_:=h13;try simp at h13_
   have h14_:=h14;try simp at h14_
   obtain ⟨⟨h17,h15⟩,hF⟩:=AaZ hF;have h17n:=AcR h17;have h17f:=Aek (F:=(AV.int .i64)) (es:=1) (fun _=>rfl) (by decide) h17;have h16:=AkP (F:=(AV.int .i64)) (es:=1) (fun _=>rfl) v6 0 h15;obtain ⟨v11,h18,hF⟩:=AdV hF;rw [h18] at h16;have h16_:=h16;try simp at h16_
   have h18l : v11.length=v6.length:=by rw [← h18]; simp <;> omega
   have h18p : 0<v11.length:=by omega
   have h18n:=AcR h18p;have h18f:=Aek (F:=(AV.int .i64)) (es:=1) (fun _=>rfl) (by decide) h18p;have F9:=A9 F8 h13 h14 h13_ h14_ h16 h16_ h17n (A7 h17f h17 h15 h18l h18p h18n h18f);try simp [F9]
   and_intros <;> first | exact GK g | apply r | omega | (simp [maxLen,F9] <;> omega)
   refine WK [(0,AV.slc 0 0 1 v11.length false),(5,Iz v4)] [(0,Gi v11),(1,.cells [AV.slc 2 0 1 v1.length false]),(2,Ci v1)] 3 (by simp [F9]) (by simp [F9]) ?_;refine SQ [] [none,none,none,none] fun _ _ g r=>?_;obtain ⟨⟨h19,h20⟩,hF⟩:=AaZ hF;have h19_:=h19;try simp at h19_
   have h20_:=h20;try simp at h20_
   have F10:=A5 F9 h19 h20 h19_ h20_;try simp [F10]
   and_intros <;> first | exact GK g | apply r | omega | (simp [maxLen,F10] <;> omega)
   refine WK [(4,AV.slc 0 0 1 ((v4).toNat) false)] [(0,Gi v11),(1,.cells [AV.slc 2 0 1 v1.length false]),(2,Ci v1)] 3 (by simp [F10]) (by simp [F10]) ?_;refine WK [(4,AV.slc 0 0 1 ((v4).toNat) false)] [(0,Gi v11),(1,.cells [AV.slc 2 0 1 v1.length false]),(2,Ci v1)] 3 (by simp [F10]) (by simp [F10]) ?_;refine AW.frz 0 (o:=Gi v11) (by simp [F10]) rfl [(4,Lz (v11.take ((v4).toNat)))] [] ⟨(.lst (by simp) (by simp) (by simp [Agw,F10] <;> omega) (by first | (simp; done) | simpa using AhX (len:=(v4).toNat) (F:=(AV.int .i64)) (es:=1) (fun _=>rfl) v11 (by omega)) rfl),trivial⟩ trivial ?_;simp only [Option.some.injEq] at hF;subst hF;refine AW.ret (hQ _ _ _ ?_ (AaF ?_)).1
   ·simp [Try.f100,F10]
   ·simp [F10]
end Go.TF
