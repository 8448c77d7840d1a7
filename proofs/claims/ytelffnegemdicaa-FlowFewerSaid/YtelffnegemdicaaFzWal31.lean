import Derived.Test.YtelffnegemdicaaFzWal28
set_option linter.unusedVariables false
set_option linter.unusedSimpArgs false
set_option maxRecDepth 100000
set_option maxHeartbeats 4000000
namespace Go.TF
open Go Go.Abs Go.Proofs Go.Proofs.YtelffnegemdicaaFwT
theorem Aja (k : Nat) (v0 : (List Int)) (v1 : (List Int)) (v2 : Int) (hF : Afk k v0=some (v1,v2)) :
 Aa9 Try.prog 11 [AV.lst false false (List.map (AV.int .i64) v0)] [] (AV.ptr 0 0) [some (.cells [AV.lst false false (List.map (AV.int .i64) v1),AV.int .i64 v2])]:=by
 unfold Afk at hF;refine EN Try.func11 ?_;intro c0 w0 Q h0 hQ
 refine WK [(0,Lz v0)] [] 0 (by simp) (by simp) ?_;refine SQ [] [none] fun _ _ g r=>?_;try simp
 and_intros <;> first | exact GK g | apply r | omega | (simp [maxLen] <;> omega)
 refine WK [(0,Lz v0)] [] 0 (by simp) (by simp) ?_;refine SQ [] [none,none,none,none] fun _ _ g r=>?_;try simp
 and_intros <;> first | exact GK g | apply r | omega | (simp [maxLen] <;> omega)
 refine WK [(2,AV.ptr 0 0)] [(0,.cells [Lz v0,Iz 0])] 1 (by simp) (by simp) ?_;simp only [Option.some.injEq,Prod.mk.injEq] at hF;obtain ⟨e0,e1⟩:=hF;subst e0 e1;refine AW.ret (hQ _ _ _ ?_ (AaF ?_)).1
 ·simp [Try.f11]
 ·simp
theorem Akp (k : Nat) (v0 : Int) (v1 : Int) (v2 : Int) (hF : Acu k v0 v1=some v2) :
 Aa9 Try.prog 27 [AV.int .i64 v0,AV.int .i64 v1] [] (AV.int .i64 v2) []:=by
 unfold Acu at hF;refine EN Try.func27 ?_;intro c0 w0 Q h0 hQ
 refine WK [(0,Iz v0),(1,Iz v1)] [] 0 (by simp) (by simp) ?_;refine SQ [] [none] fun _ _ g r=>?_;try simp
 and_intros <;> first | exact GK g | apply r | omega | (simp [maxLen] <;> omega)
 refine WK [(0,Iz v0),(1,Iz v1)] [] 0 (by simp) (by simp) ?_;refine AW.seq fun K17 hK17=>?_;refine SQ [] [none,none] fun _ _ g r=>?_;try simp
 and_intros <;> first | exact GK g | apply r | omega | (simp [maxLen] <;> omega)
 refine WK [(0,Iz v0),(1,Iz v1),(6,AV.bool (decide (v1<1)))] [] 0 (by simp) (by simp) ?_;by_cases h1 : v1<1
 ·replace hF:=AaX h1 hF;have h1_:=h1;try simp at h1_
  refine CT (by simp [h1,h1_] <;> omega) ?_;refine SQ [] [none] fun _ _ g r=>?_;try simp [h1,h1_]
  and_intros <;> first | exact GK g | apply r | omega | (simp [h1,h1_,maxLen] <;> omega)
  refine WK [(4,Iz 0)] [] 0 (by simp [h1,h1_]) (by simp [h1,h1_]) ?_;simp only [Option.some.injEq] at hF;subst hF;refine AW.ret (hQ _ _ _ ?_ (AaF ?_)).1
  ·simp [Try.f27,h1,h1_]
  ·simp [h1,h1_]
 ·replace hF:=AaY h1 hF;have h1_:=h1;try simp at h1_
  refine CF (by simp [h1,h1_] <;> omega) ?_;refine AW.skip ?_;refine hK17 _ _ _ ?_;refine SQ [] [none,none,none,none] fun _ _ g r=>?_;obtain ⟨h2,hF⟩:=AaZ hF;have h2_:=h2;try simp at h2_
  have F1:=A4 h1 h1_ h2 h2_;try simp [F1]
  and_intros <;> first | exact GK g | apply r | omega | (simp [maxLen,F1] <;> omega)
  refine WK [(0,Iz (Int.tmod v0 v1)),(1,Iz v1)] [] 0 (by simp [F1]) (by simp [F1]) ?_;refine AW.midF (α:=Int) (fun v3=>Acu.J1 k v3=some v2) (fun v3=>[(0,Iz v3)]) (fun v3=>[]) 0 (fun K24 hK24=>?_) ?_
  ·refine SQ [] [none,none] fun _ _ g r=>?_;try simp [F1]
   and_intros <;> first | exact GK g | apply r | omega | (simp [maxLen,F1] <;> omega)
   refine WK [(0,Iz (Int.tmod v0 v1)),(1,Iz v1),(11,AV.bool (decide (Int.tmod v0 v1<0)))] [] 0 (by simp [F1]) (by simp [F1]) ?_;by_cases h3 : Int.tmod v0 v1<0
   ·replace hF:=AaX h3 hF;have h3_:=h3;try simp at h3_
    have F2:=A3 F1 h3 h3_;refine CT (by simp [F2] <;> omega) ?_;refine RG [] [none,none,none,none] fun _ _ g r=>?_;try simp [F2]
    and_intros <;> first | exact GK g | apply r | omega | (simp [maxLen,F2] <;> omega)
    refine hK24 _ _ _ ?_;exact JN (IntKind.wrap .i64 (Int.tmod v0 v1+v1)) hF (by simp [F2]) (by simp [F2])
   ·replace hF:=AaY h3 hF;have h3_:=h3;try simp at h3_
    have F3:=A3 F1 h3 h3_;refine CF (by simp [F3] <;> omega) ?_;refine AW.skip ?_;refine hK24 _ _ _ ?_;exact JN (Int.tmod v0 v1) hF (by simp [F3]) (by simp [F3])
  ·rintro v3 hF
   try dsimp only at hF
   unfold Acu.J1 at hF;refine SQ [] [none,none] fun _ _ g r=>?_;try simp [F1]
   and_intros <;> first | exact GK g | apply r | omega | (simp [maxLen,F1] <;> omega)
   refine WK [(4,Iz v3)] [] 0 (by simp [F1]) (by simp [F1]) ?_;simp only [Option.some.injEq] at hF;subst hF;refine AW.ret (hQ _ _ _ ?_ (AaF ?_)).1
   ·simp [Try.f27,F1]
   ·simp [F1]
theorem Aa4 (k : Nat) (v0 : (List Int)) (v1 : Int) (v2 : Int) (v3 : Int) (v4 : Int) (hF : Aa0 k v0 v1 v2=some (v3,v4)) :
 Aa9 Try.prog 23 [AV.ptr 0 0,AV.int .i64 v2] [.cells [AV.lst false false (List.map (AV.int .i64) v0),AV.int .i64 v1]] (AV.int .i64 v3) [some (.cells [AV.lst false false (List.map (AV.int .i64) v0),AV.int .i64 v4])]:=by
 unfold Aa0 at hF;refine EN Try.func23 ?_;intro c0 w0 Q h0 hQ
 refine WK [(0,AV.ptr 0 0),(1,Iz v2)] [(0,.cells [Lz v0,Iz v1])] 1 (by simp) (by simp) ?_;refine SQ [] [none] fun _ _ g r=>?_;try simp
 and_intros <;> first | exact GK g | apply r | omega | (simp [maxLen] <;> omega)
 refine WK [(0,AV.ptr 0 0),(1,Iz v2)] [(0,.cells [Lz v0,Iz v1])] 1 (by simp) (by simp) ?_;refine AW.seq fun K12 hK12=>?_;refine SQ [] [none,none,none,none,none,none,none,none,none,none] fun _ _ g r=>?_;try simp
 and_intros <;> first | exact GK g | apply r | omega | (simp [maxLen] <;> omega)
 refine WK [(0,AV.ptr 0 0),(1,Iz v2),(14,AV.bool (decide ((v0.length : Int)≤v1)))] [(0,.cells [Lz v0,Iz v1])] 1 (by simp) (by simp) ?_;by_cases h1 : (v0.length : Int)≤v1
 ·replace hF:=AaX h1 hF;have h1_:=h1;try simp at h1_
  refine CT (by simp [h1,h1_] <;> omega) ?_;refine SQ [] [none] fun _ _ g r=>?_;try simp [h1,h1_]
  and_intros <;> first | exact GK g | apply r | omega | (simp [h1,h1_,maxLen] <;> omega)
  refine WK [(4,Iz 0)] [(0,.cells [Lz v0,Iz v1])] 1 (by simp [h1,h1_]) (by simp [h1,h1_]) ?_;simp only [Option.some.injEq,Prod.mk.injEq] at hF;obtain ⟨e0,e1⟩:=hF;subst e0 e1;refine AW.ret (hQ _ _ _ ?_ (AaF ?_)).1
  ·simp [Try.f23,h1,h1_]
  ·simp [h1,h1_]
 ·replace hF:=AaY h1 hF;have h1_:=h1;try simp at h1_
  refine CF (by simp [h1,h1_] <;> omega) ?_;refine AW.skip ?_;refine hK12 _ _ _ ?_;refine SQ [] [none,none,none,none,none,none,none,none] fun _ _ g r=>?_;try simp [h1,h1_]
  and_intros <;> first | exact GK g | apply r | omega | (simp [h1,h1_,maxLen] <;> omega)
  refine WK [(0,AV.ptr 0 0),(1,Iz v2)] [(0,.cells [Lz v0,Iz (IntKind.wrap .i64 (v1+1))])] 1 (by simp [h1,h1_]) (by simp [h1,h1_]) ?_;refine SQ [] [none,none,none,none,none,none,none,none,none,none,none,none,none,none] fun _ _ g r=>?_;obtain ⟨v5,h2,h3,h4,hF⟩:=Aaa hF;have h4_:=Aao h4;try simp at h4_
  have h3_:=h3;try simp at h3_
  have F1:=A7 h1 h1_ h2 h3 h4 h4_ h3_;try simp [F1]
  and_intros
  try any_goals first | omega | (simp [maxLen,F1] <;> omega)
  obtain ⟨v6,h5,hF⟩:=AaO hF;refine AC (Akp k _ _ _ h5) (.cons (.same (by simp [F1])) (.cons (.same (by simp [F1])) .nil)) ?_;try simp [F1]
  and_intros <;> first | exact GK g | apply r | omega | (simp [maxLen,F1] <;> omega)
  refine WK [(4,Iz v6)] [(0,.cells [Lz v0,Iz (IntKind.wrap .i64 (v1+1))])] 1 (by simp [F1]) (by simp [F1]) ?_;simp only [Option.some.injEq,Prod.mk.injEq] at hF;obtain ⟨e0,e1⟩:=hF;subst e0 e1;refine AW.ret (hQ _ _ _ ?_ (AaF ?_)).1
  ·simp [Try.f23,F1]
  ·simp [F1]
theorem AeS (k : Nat) (v0 : (List Int)) (v1 : Int) (v2 : Int) (v3 : Bool) (v4 : Int) (hF : AcD k v0 v1 v2=some (v3,v4)) :
 Aa9 Try.prog 39 [AV.ptr 0 0,AV.int .i64 v2] [.cells [AV.lst false false (List.map (AV.int .i64) v0),AV.int .i64 v1]] (AV.bool v3) [some (.cells [AV.lst false false (List.map (AV.int .i64) v0),AV.int .i64 v4])]:=by
 unfold AcD at hF;refine EN Try.func39 ?_;intro c0 w0 Q h0 hQ
 refine WK [(0,AV.ptr 0 0),(1,Iz v2)] [(0,.cells [Lz v0,Iz v1])] 1 (by simp) (by simp) ?_;refine SQ [] [none] fun _ _ g r=>?_;try simp
 and_intros <;> first | exact GK g | apply r | omega | (simp [maxLen] <;> omega)
 refine WK [(0,AV.ptr 0 0),(1,Iz v2)] [(0,.cells [Lz v0,Iz v1])] 1 (by simp) (by simp) ?_;refine SQ [] [none,none,none,none,none,none,none] fun _ _ g r=>?_;try simp
 and_intros
 try any_goals first | omega | (simp [maxLen] <;> omega)
 obtain ⟨v5,v6,h1,hF⟩:=Aa8 hF;refine Aa1 (Aa4 k _ _ _ _ _ h1) (by simp) [0] [] [0] rfl (.cons (.same (by simp)) (.cons (.same (by simp)) .nil)) (by simp) (by decide) (by simp) (by simp) (.inl rfl) (by simp) (by simp) ?_;try simp
 and_intros <;> first | exact GK g | apply r | omega | (simp [maxLen] <;> omega)
 refine WK [(4,AV.bool (v5==(IntKind.wrap .i64 (v2-1))))] [(0,.cells [Lz v0,Iz v6])] 1 (by simp) (by simp) ?_;simp only [Option.some.injEq,Prod.mk.injEq] at hF;obtain ⟨e0,e1⟩:=hF;subst e0 e1;refine AW.ret (hQ _ _ _ ?_ (AaF ?_)).1
 ·simp [Try.f39]
 ·simp
theorem AjZ (k : Nat) (v0 : (List Int)) (v1 : Int) (v2 : Bool) (hF : AbS k v0 v1=some v2) :
 Aa9 Try.prog 91 [AV.lst false false (List.map (AV.int .i64) v0),AV.int .i64 v1] [] (AV.bool v2) []:=by
 unfold AbS at hF;refine EN Try.func91 ?_;intro c0 w0 Q h0 hQ
 refine WK [(0,Lz v0),(1,Iz v1)] [] 0 (by simp) (by simp) ?_;refine SQ [] [none] fun _ _ g r=>?_;try simp
 and_intros <;> first | exact GK g | apply r | omega | (simp [maxLen] <;> omega)
 refine WK [(0,Lz v0),(1,Iz v1)] [] 0 (by simp) (by simp) ?_;refine AW.seq fun K155 hK155=>?_;refine SQ [] [none] fun _ _ g r=>?_;try simp
 and_intros <;> first | exact GK g | apply r | omega | (simp [maxLen] <;> omega)
 refine WK [(0,Lz v0),(1,Iz v1),(5,Iz 0)] [] 0 (by simp) (by simp) ?_;refine AW.block ?_;refine AW.loopF (α:=Int) (fun n v3=>AbS.L1 k v0 v1 n v3=some v2) (fun v3=>[(0,Lz v0),(1,Iz v1),(5,Iz v3)]) (fun v3=>[]) 0 k (0) hF (by simp) (by simp) (by simp) ?_;rintro (_|n1) v3 hF K192 hK192
 ·try dsimp only at hF
  rw [AbS.L1] at hF; cases hF
 try dsimp only at hF
 rw [AbS.L1] at hF;refine AW.seq fun K194 hK194=>?_;refine SQ [] [none,none,none,none] fun _ _ g r=>?_;try simp
 and_intros <;> first | exact GK g | apply r | omega | (simp [maxLen] <;> omega)
 refine WK [(0,Lz v0),(1,Iz v1),(5,Iz v3),(9,AV.bool (decide (v3<(v0.length : Int))))] [] 0 (by simp) (by simp) ?_;by_cases h1 : v3<(v0.length : Int)
 ·replace hF:=AaX h1 hF;have h1_:=h1;try simp at h1_
  refine CT (by simp [h1,h1_] <;> omega) ?_;refine AW.skip ?_;refine hK194 _ _ _ ?_;refine AW.midF (α:=Unit) (fun _=>AbS.J2 k v3 (fun v3_=>AbS.L1 k v0 v1 n1 v3_)=some v2) (fun _=>[(0,Lz v0),(1,Iz v1),(5,Iz v3)]) (fun _=>[]) 0 (fun K201 hK201=>?_) ?_
  ·refine AW.block ?_;refine SQ [] [none,none,none,none,none,none,some (17,false),some (17,false),some (17,false),some (17,false),some (17,false),some (17,false),none,none,some (25,false),some (25,false),some (25,false),some (28,true),some (28,true),some (28,true),some (28,true),some (28,true),some (28,true),some (28,true),some (28,true),some (28,true),some (28,true),some (25,false),none] fun _ _ g r=>?_;obtain ⟨v4,h2,h3,h4,hF⟩:=Aaa hF;have h4_:=Aao h4;try simp at h4_
   have h3_:=h3;try simp at h3_
   by_cases h5 : v4<0
   ·replace hF:=AaX h5 hF;have h5_:=h5;try simp at h5_
    have F1:=A9 h1 h1_ h2 h3 h4 h4_ h3_ h5 h5_;try simp [F1]
    and_intros <;> first | exact GK g | apply r | omega | (simp [maxLen,F1] <;> omega)
    refine WK [(0,Lz v0),(1,Iz v1),(5,Iz v3),(40,AV.bool true)] [] 0 (by simp [F1]) (by simp [F1]) ?_;refine CT (by simp [F1]) ?_;refine SQ [] [none] fun _ _ g r=>?_;try simp [F1]
    and_intros <;> first | exact GK g | apply r | omega | (simp [maxLen,F1] <;> omega)
    refine WK [(4,AV.bool false)] [] 0 (by simp [F1]) (by simp [F1]) ?_;simp only [Option.some.injEq] at hF;subst hF;refine AW.ret (hQ _ _ _ ?_ (AaF ?_)).1
    ·simp [Try.f91,F1]
    ·simp [F1]
   ·replace hF:=AaY h5 hF;have h5_:=h5;try simp at h5_
    by_cases h6 : v1≤v4
    ·replace hF:=AaX h6 hF;have h6_:=h6;try simp at h6_
     have F2:=A9 h1 h1_ h2 h3 h4 h4_ h3_ h5 (A3 h5_ h6 h6_);try simp [F2]
     and_intros <;> first | exact GK g | apply r | omega | (simp [maxLen,F2] <;> omega)
     refine WK [(0,Lz v0),(1,Iz v1),(5,Iz v3),(40,AV.bool true)] [] 0 (by simp [F2]) (by simp [F2]) ?_;refine CT (by simp [F2]) ?_;refine SQ [] [none] fun _ _ g r=>?_;try simp [F2]
     and_intros <;> first | exact GK g | apply r | omega | (simp [maxLen,F2] <;> omega)
     refine WK [(4,AV.bool false)] [] 0 (by simp [F2]) (by simp [F2]) ?_;simp only [Option.some.injEq] at hF;subst hF;refine AW.ret (hQ _ _ _ ?_ (AaF ?_)).1
     ·simp [Try.f91,F2]
     ·simp [F2]
    ·replace hF:=AaY h6 hF;have h6_:=h6;try simp at h6_
     by_cases h7 : 0<v3
     ·replace hF:=AaX h7 hF;have h7_:=h7;try simp at h7_
      obtain ⟨v5,h8,h9,h10,hF⟩:=Aaa hF;have h10_:=Aao h10;try simp at h10_
      have h9_:=h9;try simp at h9_
      have F3:=A9 h1 h1_ h2 h3 h4 h4_ h3_ h5 (A9 h5_ h6 h6_ h7 h7_ h8 h9 h10 (A2 h10_ h9_));try simp [F3]
      and_intros <;> first | exact GK g | apply r | omega | (simp [maxLen,F3] <;> omega)
      refine WK [(0,Lz v0),(1,Iz v1),(5,Iz v3),(40,AV.bool (decide (v4≤v5)))] [] 0 (by simp [F3]) (by simp [F3]) ?_;by_cases h11 : v4≤v5
      ·replace hF:=AaX h11 hF;have h11_:=h11;try simp at h11_
       have F4:=A3 F3 h11 h11_;refine CT (by simp [F4] <;> omega) ?_;refine SQ [] [none] fun _ _ g r=>?_;try simp [F4]
       and_intros <;> first | exact GK g | apply r | omega | (simp [maxLen,F4] <;> omega)
       refine WK [(4,AV.bool false)] [] 0 (by simp [F4]) (by simp [F4]) ?_;simp only [Option.some.injEq] at hF;subst hF;refine AW.ret (hQ _ _ _ ?_ (AaF ?_)).1
       ·simp [Try.f91,F4]
       ·simp [F4]
      ·replace hF:=AaY h11 hF;have h11_:=h11;try simp at h11_
       have F5:=A3 F3 h11 h11_;refine CF (by simp [F5] <;> omega) ?_;refine AW.skip ?_;refine hK201 _ _ _ ?_;exact JN (()) hF (by simp [F5]) (by simp [F5])
     ·replace hF:=AaY h7 hF;have h7_:=h7;try simp at h7_
      have F6:=A9 h1 h1_ h2 h3 h4 h4_ h3_ h5 (A5 h5_ h6 h6_ h7 h7_);try simp [F6]
      and_intros <;> first | exact GK g | apply r | omega | (simp [maxLen,F6] <;> omega)
      refine WK [(0,Lz v0),(1,Iz v1),(5,Iz v3),(40,AV.bool false)] [] 0 (by simp [F6]) (by simp [F6]) ?_;refine CF (by simp [F6]) ?_;refine AW.skip ?_;refine hK201 _ _ _ ?_;exact JN (()) hF (by simp [F6]) (by simp [F6])
  ·rintro ⟨⟩ hF
   try dsimp only at hF
   unfold AbS.J2 at hF;refine RG [] [none,none,none] fun _ _ g r=>?_;try simp [h1,h1_]
   and_intros <;> first | exact GK g | apply r | omega | (simp [h1,h1_,maxLen] <;> omega)
   refine hK192 _ _ _ ?_;exact NX (k':=n1) (IntKind.wrap .i64 (v3+1)) hF (by simp [h1,h1_]) (by simp [h1,h1_])
 ·replace hF:=AaY h1 hF;have h1_:=h1;try simp at h1_
  refine CF (by simp [h1,h1_] <;> omega) ?_;refine AW.exit ?_;try simp
  refine hK155 _ _ _ ?_;refine SQ [] [none] fun _ _ g r=>?_;try simp [h1,h1_]
  and_intros <;> first | exact GK g | apply r | omega | (simp [h1,h1_,maxLen] <;> omega)
  refine WK [(4,AV.bool true)] [] 0 (by simp [h1,h1_]) (by simp [h1,h1_]) ?_;simp only [Option.some.injEq] at hF;subst hF;refine AW.ret (hQ _ _ _ ?_ (AaF ?_)).1
  ·simp [Try.f91,h1,h1_]
  ·simp [h1,h1_]
theorem Ac3 (k : Nat) (v0 : (List Int)) (v1 : Int) (v2 : Bool) (hF : Abf k v0 v1=some v2) :
 Aa9 Try.prog 20 [AV.lst false false (List.map (AV.int .i64) v0),AV.int .i64 v1] [] (AV.bool v2) []:=by
 unfold Abf at hF;refine EN Try.func20 ?_;intro c0 w0 Q h0 hQ
 refine WK [(0,Lz v0),(1,Iz v1)] [] 0 (by simp) (by simp) ?_;refine SQ [] [none] fun _ _ g r=>?_;try simp
 and_intros <;> first | exact GK g | apply r | omega | (simp [maxLen] <;> omega)
 refine WK [(0,Lz v0),(1,Iz v1)] [] 0 (by simp) (by simp) ?_;refine AW.seq fun K119 hK119=>?_;refine SQ [] [none] fun _ _ g r=>?_;try simp
 and_intros <;> first | exact GK g | apply r | omega | (simp [maxLen] <;> omega)
 refine WK [(0,Lz v0),(1,Iz v1),(5,Iz 0)] [] 0 (by simp) (by simp) ?_;refine AW.block ?_;refine AW.loopF (α:=Int) (fun n v3=>Abf.L1 k v0 v1 n v3=some v2) (fun v3=>[(0,Lz v0),(1,Iz v1),(5,Iz v3)]) (fun v3=>[]) 0 k (0) hF (by simp) (by simp) (by simp) ?_;rintro (_|n1) v3 hF K148 hK148
 ·try dsimp only at hF
  rw [Abf.L1] at hF; cases hF
 try dsimp only at hF
 rw [Abf.L1] at hF;refine AW.seq fun K150 hK150=>?_;refine SQ [] [none,none,none,none] fun _ _ g r=>?_;try simp
 and_intros <;> first | exact GK g | apply r | omega | (simp [maxLen] <;> omega)
 refine WK [(0,Lz v0),(1,Iz v1),(5,Iz v3),(9,AV.bool (decide (v3<(v0.length : Int))))] [] 0 (by simp) (by simp) ?_;by_cases h1 : v3<(v0.length : Int)
 ·replace hF:=AaX h1 hF;have h1_:=h1;try simp at h1_
  refine CT (by simp [h1,h1_] <;> omega) ?_;refine AW.skip ?_;refine hK150 _ _ _ ?_;refine AW.seq fun K154 hK154=>?_;refine AW.block ?_;refine SQ [] [none,none,none,none,none,none] fun _ _ g r=>?_;obtain ⟨v4,h2,h3,h4,hF⟩:=Aaa hF;have h4_:=Aao h4;try simp at h4_
  have h3_:=h3;try simp at h3_
  have F1:=A7 h1 h1_ h2 h3 h4 h4_ h3_;try simp [F1]
  and_intros <;> first | exact GK g | apply r | omega | (simp [maxLen,F1] <;> omega)
  refine WK [(0,Lz v0),(1,Iz v1),(5,Iz v3),(17,AV.bool (v4==v1))] [] 0 (by simp [F1]) (by simp [F1]) ?_;by_cases h5 : v4=v1
  ·replace hF:=AaX h5 hF;have h5q : v4=v1:=h5;have h5_:=Abx h5q;have h5__:=Abw h5q;have F2:=A3 F1 h5_ h5__;refine CT (by simp [F2] <;> omega) ?_;refine SQ [] [none] fun _ _ g r=>?_;try simp [F2]
   and_intros <;> first | exact GK g | apply r | omega | (simp [maxLen,F2] <;> omega)
   refine WK [(4,AV.bool true)] [] 0 (by simp [F2]) (by simp [F2]) ?_;simp only [Option.some.injEq] at hF;subst hF;refine AW.ret (hQ _ _ _ ?_ (AaF ?_)).1
   ·simp [Try.f20,F2]
   ·simp [F2]
  ·replace hF:=AaY h5 hF;have h5_:=Abo h5;have h5__:=Abt h5;have F3:=A4 F1 h5 h5_ h5__;refine CF (by simp [F3] <;> omega) ?_;refine AW.skip ?_;refine hK154 _ _ _ ?_;refine RG [] [none,none,none] fun _ _ g r=>?_;try simp [F3]
   and_intros <;> first | exact GK g | apply r | omega | (simp [maxLen,F3] <;> omega)
   refine hK148 _ _ _ ?_;exact NX (k':=n1) (IntKind.wrap .i64 (v3+1)) hF (by simp [F3]) (by simp [F3])
 ·replace hF:=AaY h1 hF;have h1_:=h1;try simp at h1_
  refine CF (by simp [h1,h1_] <;> omega) ?_;refine AW.exit ?_;try simp
  refine hK119 _ _ _ ?_;refine SQ [] [none] fun _ _ g r=>?_;try simp [h1,h1_]
  and_intros <;> first | exact GK g | apply r | omega | (simp [h1,h1_,maxLen] <;> omega)
  refine WK [(4,AV.bool false)] [] 0 (by simp [h1,h1_]) (by simp [h1,h1_]) ?_;simp only [Option.some.injEq] at hF;subst hF;refine AW.ret (hQ _ _ _ ?_ (AaF ?_)).1
  ·simp [Try.f20,h1,h1_]
  ·simp [h1,h1_]
theorem Ae8 (k : Nat) (v0 : Int) (v1 : Int) (v2 : Int) (v3 : Int) (v4 : Int) (v5 : Int) (v6 : Bool) (hF : Acf k v0 v1 v2 v3 v4 v5=some v6) :
 Aa9 Try.prog 92 [AV.agg [AV.int .i64 v0,AV.int .i64 v1,AV.int .i64 v2],AV.agg [AV.int .i64 v3,AV.int .i64 v4,AV.int .i64 v5]] [] (AV.bool v6) []:=by
 unfold Acf at hF;refine EN Try.func92 ?_;intro c0 w0 Q h0 hQ
 refine WK [(0,AV.agg [Iz v0,Iz v1,Iz v2]),(1,AV.agg [Iz v3,Iz v4,Iz v5])] [] 0 (by simp) (by simp) ?_;refine SQ [] [none,none,none] fun _ _ g r=>?_;try simp
 and_intros <;> first | exact GK g | apply r | omega | (simp [maxLen] <;> omega)
 refine WK [(2,AV.ptr 0 0),(3,AV.ptr 1 0)] [(0,.cells [Iz v0,Iz v1,Iz v2]),(1,.cells [Iz v3,Iz v4,Iz v5])] 2 (by simp) (by simp) ?_;refine SQ [] [none,none,none,none,none,none,some (10,false),some (10,false),some (10,false),some (10,false),some (10,false),some (10,false),some (16,true),some (16,true),some (16,true),some (16,true),some (16,true),some (10,false),none,none] fun _ _ g r=>?_;by_cases h1 : v0<v3
 ·replace hF:=AaX h1 hF;have h1_:=h1;try simp at h1_
  try simp [h1,h1_]
  and_intros <;> first | exact GK g | apply r | omega | (simp [h1,h1_,maxLen] <;> omega)
  refine WK [(4,AV.bool true)] [] 2 (by simp [h1,h1_]) (by simp [h1,h1_]) ?_;simp only [Option.some.injEq] at hF;subst hF;refine AW.ret (hQ _ _ _ ?_ (AaF ?_)).1
  ·simp [Try.f92,h1,h1_]
  ·simp [h1,h1_]
 ·replace hF:=AaY h1 hF;have h1_:=h1;try simp at h1_
  by_cases h2 : v0=v3
  ·replace hF:=AaX h2 hF;have h2q : v0=v3:=h2;have h2_:=Abx h2q;have h2__:=Abw h2q;have F1:=A4 h1 h1_ h2_ h2__;try simp [F1]
   and_intros <;> first | exact GK g | apply r | omega | (simp [maxLen,F1] <;> omega)
   refine WK [(4,AV.bool (decide (v1<v4)))] [] 2 (by simp [F1]) (by simp [F1]) ?_;simp only [Option.some.injEq] at hF;subst hF;refine AW.ret (hQ _ _ _ ?_ (AaF ?_)).1
   ·simp [Try.f92,F1]
   ·simp [F1]
  ·replace hF:=AaY h2 hF;have h2_:=Abo h2;have h2__:=Abt h2;have F2:=A5 h1 h1_ h2 h2_ h2__;try simp [F2]
   and_intros <;> first | exact GK g | apply r | omega | (simp [maxLen,F2] <;> omega)
   refine WK [(4,AV.bool false)] [] 2 (by simp [F2]) (by simp [F2]) ?_;simp only [Option.some.injEq] at hF;subst hF;refine AW.ret (hQ _ _ _ ?_ (AaF ?_)).1
   ·simp [Try.f92,F2]
   ·simp [F2]
theorem Aho (k : Nat) (v0 : Int) (v1 : (List AaA)) (v2 : (List Int)) (v3 : Int) (hF : Aav k v0 v1 v2=some v3) :
 Aa9 Try.prog 63 [AV.agg [AV.int .i64 v0,Q2 v1,AV.lst false false (List.map (AV.int .i64) v2)]] [] (AV.int .i64 v3) []:=by
 unfold Aav at hF;refine EN Try.func63 ?_;intro c0 w0 Q h0 hQ
 refine WK [(0,AV.agg [Iz v0,Q2 v1,Lz v2])] [] 0 (by simp) (by simp) ?_;refine SQ [] [none,none] fun _ _ g r=>?_;try simp
 and_intros <;> first | exact GK g | apply r | omega | (simp [maxLen] <;> omega)
 refine WK [(1,AV.ptr 0 0)] [(0,.cells [Iz v0,Q2 v1,Lz v2])] 1 (by simp) (by simp) ?_;refine AW.seq fun K401 hK401=>?_;refine SQ [] [none,none,none,none,some (8,false),some (8,false),some (8,false),none,none,some (13,false),some (13,false),some (13,false),some (13,false),none,none,some (19,false),some (19,false),some (19,false),some (19,false),some (19,false),some (19,false),none] fun _ _ g r=>?_;by_cases h1 : v0<0
 ·replace hF:=AaX h1 hF;have h1_:=h1;try simp at h1_
  try simp [h1,h1_]
  and_intros <;> first | exact GK g | apply r | omega | (simp [h1,h1_,maxLen] <;> omega)
  refine WK [(1,AV.ptr 0 0),(26,AV.bool true)] [(0,.cells [Iz v0,Q2 v1,Lz v2])] 1 (by simp [h1,h1_]) (by simp [h1,h1_]) ?_;refine CT (by simp [h1,h1_]) ?_;refine SQ [] [none] fun _ _ g r=>?_;try simp [h1,h1_]
  and_intros <;> first | exact GK g | apply r | omega | (simp [h1,h1_,maxLen] <;> omega)
  refine WK [(2,Iz 14)] [] 1 (by simp [h1,h1_]) (by simp [h1,h1_]) ?_;simp only [Option.some.injEq] at hF;subst hF;refine AW.ret (hQ _ _ _ ?_ (AaF ?_)).1
  ·simp [Try.f63,h1,h1_]
  ·simp [h1,h1_]
 ·replace hF:=AaY h1 hF;have h1_:=h1;try simp at h1_
  by_cases h2 : 64<v0
  ·replace hF:=AaX h2 hF;have h2_:=h2;try simp at h2_
   have F1:=A4 h1 h1_ h2 h2_;try simp [F1]
   and_intros <;> first | exact GK g | apply r | omega | (simp [maxLen,F1] <;> omega)
   refine WK [(1,AV.ptr 0 0),(26,AV.bool true)] [(0,.cells [Iz v0,Q2 v1,Lz v2])] 1 (by simp [F1]) (by simp [F1]) ?_;refine CT (by simp [F1]) ?_;refine SQ [] [none] fun _ _ g r=>?_;try simp [F1]
   and_intros <;> first | exact GK g | apply r | omega | (simp [maxLen,F1] <;> omega)
   refine WK [(2,Iz 14)] [] 1 (by simp [F1]) (by simp [F1]) ?_;simp only [Option.some.injEq] at hF;subst hF;refine AW.ret (hQ _ _ _ ?_ (AaF ?_)).1
   ·simp [Try.f63,F1]
   ·simp [F1]
  ·replace hF:=AaY h2 hF;have h2_:=h2;try simp at h2_
   by_cases h3 : 500<(v1.length : Int)
   ·replace hF:=AaX h3 hF;have h3_:=h3;try simp at h3_
    have F2:=A6 h1 h1_ h2 h2_ h3 h3_;try simp [F2]
    and_intros <;> first | exact GK g | apply r | omega | (simp [maxLen,F2] <;> omega)
    refine WK [(1,AV.ptr 0 0),(26,AV.bool true)] [(0,.cells [Iz v0,Q2 v1,Lz v2])] 1 (by simp [F2]) (by simp [F2]) ?_;refine CT (by simp [F2]) ?_;refine SQ [] [none] fun _ _ g r=>?_;try simp [F2]
    and_intros <;> first | exact GK g | apply r | omega | (simp [maxLen,F2] <;> omega)
    refine WK [(2,Iz 14)] [] 1 (by simp [F2]) (by simp [F2]) ?_;simp only [Option.some.injEq] at hF;subst hF;refine AW.ret (hQ _ _ _ ?_ (AaF ?_)).1
    ·simp [Try.f63,F2]
    ·simp [F2]
   ·replace hF:=AaY h3 hF;have h3_:=h3;try simp at h3_
    have F3:=A6 h1 h1_ h2 h2_ h3 h3_;try simp [F3]
    and_intros
    try any_goals first | omega | (simp [maxLen,F3] <;> omega)
    obtain ⟨v4,h4,hF⟩:=AaO hF;refine AC (AjZ k _ _ _ h4) (.cons (.same (by simp [F3])) (.cons (.same (by simp [F3])) .nil)) ?_;try simp [F3]
    and_intros <;> first | exact GK g | apply r | omega | (simp [maxLen,F3] <;> omega)
    refine WK [(1,AV.ptr 0 0),(26,AV.bool (!v4))] [(0,.cells [Iz v0,Q2 v1,Lz v2])] 1 (by simp [F3]) (by simp [F3]) ?_;by_cases h5 : (!v4)=true
    ·replace hF:=AaX h5 hF;have h5_:=h5;try simp at h5_
     have F4:=A3 F3 h5 h5_;refine CT (by simp [F4] <;> omega) ?_;refine SQ [] [none] fun _ _ g r=>?_;try simp [F4]
     and_intros <;> first | exact GK g | apply r | omega | (simp [maxLen,F4] <;> omega)
     refine WK [(2,Iz 14)] [] 1 (by simp [F4]) (by simp [F4]) ?_;simp only [Option.some.injEq] at hF;subst hF;refine AW.ret (hQ _ _ _ ?_ (AaF ?_)).1
     ·simp [Try.f63,F4]
     ·simp [F4]
    ·replace hF:=AaY h5 hF;have h5_:=h5;try simp at h5_
     have F5:=A3 F3 h5 h5_;refine CF (by simp [F5] <;> omega) ?_;refine AW.skip ?_;refine hK401 _ _ _ ?_;refine AW.seq fun K597 hK597=>?_;refine SQ [] [none] fun _ _ g r=>?_;try simp [F5]
     and_intros <;> first | exact GK g | apply r | omega | (simp [maxLen,F5] <;> omega)
     refine WK [(1,AV.ptr 0 0),(3,Iz 0)] [(0,.cells [Iz v0,Q2 v1,Lz v2])] 1 (by simp [F5]) (by simp [F5]) ?_;refine AW.block ?_;refine AW.loopF (α:=Int) (fun n v5=>Aav.L1 k v0 v1 v2 n v5=some v3) (fun v5=>[(1,AV.ptr 0 0),(3,Iz v5)]) (fun v5=>[(0,.cells [Iz v0,Q2 v1,Lz v2])]) 1 k (0) hF (by simp [F5]) (by simp [F5]) (by simp) ?_;rintro (_|n1) v5 hF K740 hK740
     ·try dsimp only at hF
      rw [Aav.L1] at hF; cases hF
     try dsimp only at hF
     rw [Aav.L1] at hF;refine AW.seq fun K742 hK742=>?_;refine SQ [] [none,none,none,none,none] fun _ _ g r=>?_;try simp [F5]
     and_intros <;> first | exact GK g | apply r | omega | (simp [maxLen,F5] <;> omega)
     refine WK [(1,AV.ptr 0 0),(3,Iz v5),(31,AV.bool (decide (v5<(v1.length : Int))))] [(0,.cells [Iz v0,Q2 v1,Lz v2])] 1 (by simp [F5]) (by simp [F5]) ?_;by_cases h6 : v5<(v1.length : Int)
     ·replace hF:=AaX h6 hF;have h6_:=h6;try simp at h6_
      have F6:=A3 F5 h6 h6_;refine CT (by simp [F6] <;> omega) ?_;refine AW.skip ?_;refine hK742 _ _ _ ?_;refine AW.seq fun K765 hK765=>?_;refine AW.block ?_;refine SQ [] [none,none,none,none,none,none,none] fun _ _ g r=>?_;obtain ⟨v6,h7,h8,h9,hF⟩:=Aaa hF;have h9_:=Aao h9;try simp at h9_
      have h8_:=h8;try simp at h8_
      have F7:=A6 F6 h7 h8 h9 h9_ h8_;try simp [F7]
      and_intros <;> first | exact GK g | apply r | omega | (simp [maxLen,F7] <;> omega)
      refine WK [(1,AV.ptr 0 0),(3,Iz v5),(4,AV.ptr 1 0)] [(0,.cells [Iz v0,Q2 v1,Lz v2]),(1,.cells [Iz v6.From,Iz v6.To,Iz v6.Level])] 2 (by simp [F7]) (by simp [F7]) ?_;refine AW.seq fun K775 hK775=>?_;refine SQ [] [none,none,none,none,some (42,false),some (42,false),some (42,false),some (42,false),some (42,false),none,none,some (49,false),some (49,false),some (49,false),none,none,some (54,false),some (54,false),some (54,false),some (54,false),some (54,false),none,none,some (61,false),some (61,false),some (61,false),some (61,false),some (61,false),none,none,some (68,false),some (68,false),some (68,false),none,none,some (73,false),some (73,false),some (73,false),none] fun _ _ g r=>?_;by_cases h10 : v6.From<0
      ·replace hF:=AaX h10 hF;have h10_:=h10;try simp at h10_
       have F8:=A3 F7 h10 h10_;try simp [F8]
       and_intros <;> first | exact GK g | apply r | omega | (simp [maxLen,F8] <;> omega)
       refine WK [(1,AV.ptr 0 0),(3,Iz v5),(4,AV.ptr 1 0),(77,AV.bool true)] [(0,.cells [Iz v0,Q2 v1,Lz v2]),(1,.cells [Iz v6.From,Iz v6.To,Iz v6.Level])] 2 (by simp [F8]) (by simp [F8]) ?_;refine CT (by simp [F8]) ?_;refine SQ [] [none] fun _ _ g r=>?_;try simp [F8]
       and_intros <;> first | exact GK g | apply r | omega | (simp [maxLen,F8] <;> omega)
       refine WK [(2,Iz 14)] [] 2 (by simp [F8]) (by simp [F8]) ?_;simp only [Option.some.injEq] at hF;subst hF;refine AW.ret (hQ _ _ _ ?_ (AaF ?_)).1
       ·simp [Try.f63,F8]
       ·simp [F8]
      ·replace hF:=AaY h10 hF;have h10_:=h10;try simp at h10_
       by_cases h11 : v0≤v6.From
       ·replace hF:=AaX h11 hF;have h11_:=h11;try simp at h11_
        have F9:=A5 F7 h10 h10_ h11 h11_;try simp [F9]
        and_intros <;> first | exact GK g | apply r | omega | (simp [maxLen,F9] <;> omega)
        refine WK [(1,AV.ptr 0 0),(3,Iz v5),(4,AV.ptr 1 0),(77,AV.bool true)] [(0,.cells [Iz v0,Q2 v1,Lz v2]),(1,.cells [Iz v6.From,Iz v6.To,Iz v6.Level])] 2 (by simp [F9]) (by simp [F9]) ?_;refine CT (by simp [F9]) ?_;refine SQ [] [none] fun _ _ g r=>?_;try simp [F9]
        and_intros <;> first | exact GK g | apply r | omega | (simp [maxLen,F9] <;> omega)
        refine WK [(2,Iz 14)] [] 2 (by simp [F9]) (by simp [F9]) ?_;simp only [Option.some.injEq] at hF;subst hF;refine AW.ret (hQ _ _ _ ?_ (AaF ?_)).1
        ·simp [Try.f63,F9]
        ·simp [F9]
       ·replace hF:=AaY h11 hF;have h11_:=h11;try simp at h11_
        by_cases h12 : v6.To<0
        ·replace hF:=AaX h12 hF;have h12_:=h12;try simp at h12_
         have F10:=A7 F7 h10 h10_ h11 h11_ h12 h12_;try simp [F10]
         and_intros <;> first | exact GK g | apply r | omega | (simp [maxLen,F10] <;> omega)
         refine WK [(1,AV.ptr 0 0),(3,Iz v5),(4,AV.ptr 1 0),(77,AV.bool true)] [(0,.cells [Iz v0,Q2 v1,Lz v2]),(1,.cells [Iz v6.From,Iz v6.To,Iz v6.Level])] 2 (by simp [F10]) (by simp [F10]) ?_;refine CT (by simp [F10]) ?_;refine SQ [] [none] fun _ _ g r=>?_;try simp [F10]
         and_intros <;> first | exact GK g | apply r | omega | (simp [maxLen,F10] <;> omega)
         refine WK [(2,Iz 14)] [] 2 (by simp [F10]) (by simp [F10]) ?_;simp only [Option.some.injEq] at hF;subst hF;refine AW.ret (hQ _ _ _ ?_ (AaF ?_)).1
         ·simp [Try.f63,F10]
         ·simp [F10]
        ·replace hF:=AaY h12 hF;have h12_:=h12;try simp at h12_
         by_cases h13 : v0≤v6.To
         ·replace hF:=AaX h13 hF;have h13_:=h13;try simp at h13_
          have F11:=A9 F7 h10 h10_ h11 h11_ h12 h12_ h13 h13_;try simp [F11]
          and_intros <;> first | exact GK g | apply r | omega | (simp [maxLen,F11] <;> omega)
          refine WK [(1,AV.ptr 0 0),(3,Iz v5),(4,AV.ptr 1 0),(77,AV.bool true)] [(0,.cells [Iz v0,Q2 v1,Lz v2]),(1,.cells [Iz v6.From,Iz v6.To,Iz v6.Level])] 2 (by simp [F11]) (by simp [F11]) ?_;refine CT (by simp [F11]) ?_;refine SQ [] [none] fun _ _ g r=>?_;try simp [F11]
          and_intros <;> first | exact GK g | apply r | omega | (simp [maxLen,F11] <;> omega)
          refine WK [(2,Iz 14)] [] 2 (by simp [F11]) (by simp [F11]) ?_;simp only [Option.some.injEq] at hF;subst hF;refine AW.ret (hQ _ _ _ ?_ (AaF ?_)).1
          ·simp [Try.f63,F11]
          ·simp [F11]
         ·replace hF:=AaY h13 hF;have h13_:=h13;try simp at h13_
          by_cases h14 : v6.From=v6.To
          ·replace hF:=AaX h14 hF;have h14q : v6.From=v6.To:=h14;have h14_:=Abx h14q;have h14__:=Abw h14q;have F12:=A9 F7 h10 h10_ h11 h11_ h12 h12_ h13 (A3 h13_ h14_ h14__);try simp [F12]
           and_intros <;> first | exact GK g | apply r | omega | (simp [maxLen,F12] <;> omega)
           refine WK [(1,AV.ptr 0 0),(3,Iz v5),(4,AV.ptr 1 0),(77,AV.bool true)] [(0,.cells [Iz v0,Q2 v1,Lz v2]),(1,.cells [Iz v6.From,Iz v6.To,Iz v6.Level])] 2 (by simp [F12]) (by simp [F12]) ?_;refine CT (by simp [F12]) ?_;refine SQ [] [none] fun _ _ g r=>?_;try simp [F12]
           and_intros <;> first | exact GK g | apply r | omega | (simp [maxLen,F12] <;> omega)
           refine WK [(2,Iz 14)] [] 2 (by simp [F12]) (by simp [F12]) ?_;simp only [Option.some.injEq] at hF;subst hF;refine AW.ret (hQ _ _ _ ?_ (AaF ?_)).1
           ·simp [Try.f63,F12]
           ·simp [F12]
          ·replace hF:=AaY h14 hF;have h14_:=Abo h14;have h14__:=Abt h14;by_cases h15 : v6.Level<1
           ·replace hF:=AaX h15 hF;have h15_:=h15;try simp at h15_
            have F13:=A9 F7 h10 h10_ h11 h11_ h12 h12_ h13 (A6 h13_ h14 h14_ h14__ h15 h15_);try simp [F13]
            and_intros <;> first | exact GK g | apply r | omega | (simp [maxLen,F13] <;> omega)
            refine WK [(1,AV.ptr 0 0),(3,Iz v5),(4,AV.ptr 1 0),(77,AV.bool true)] [(0,.cells [Iz v0,Q2 v1,Lz v2]),(1,.cells [Iz v6.From,Iz v6.To,Iz v6.Level])] 2 (by simp [F13]) (by simp [F13]) ?_;refine CT (by simp [F13]) ?_;refine SQ [] [none] fun _ _ g r=>?_;try simp [F13]
            and_intros <;> first | exact GK g | apply r | omega | (simp [maxLen,F13] <;> omega)
            refine WK [(2,Iz 14)] [] 2 (by simp [F13]) (by simp [F13]) ?_;simp only [Option.some.injEq] at hF;subst hF;refine AW.ret (hQ _ _ _ ?_ (AaF ?_)).1
            ·simp [Try.f63,F13]
            ·simp [F13]
           ·replace hF:=AaY h15 hF;have h15_:=h15;try simp at h15_
            have F14:=A9 F7 h10 h10_ h11 h11_ h12 h12_ h13 (A6 h13_ h14 h14_ h14__ h15 h15_);try simp [F14]
            and_intros <;> first | exact GK g | apply r | omega | (simp [maxLen,F14] <;> omega)
            refine WK [(1,AV.ptr 0 0),(3,Iz v5),(4,AV.ptr 1 0),(77,AV.bool (decide (3<v6.Level)))] [(0,.cells [Iz v0,Q2 v1,Lz v2]),(1,.cells [Iz v6.From,Iz v6.To,Iz v6.Level])] 2 (by simp [F14]) (by simp [F14]) ?_;by_cases h16 : 3<v6.Level
            ·replace hF:=AaX h16 hF;have h16_:=h16;try simp at h16_
             have F15:=A3 F14 h16 h16_;refine CT (by simp [F15] <;> omega) ?_;refine SQ [] [none] fun _ _ g r=>?_;try simp [F15]
             and_intros <;> first | exact GK g | apply r | omega | (simp [maxLen,F15] <;> omega)
             refine WK [(2,Iz 14)] [] 2 (by simp [F15]) (by simp [F15]) ?_;simp only [Option.some.injEq] at hF;subst hF;refine AW.ret (hQ _ _ _ ?_ (AaF ?_)).1
             ·simp [Try.f63,F15]
             ·simp [F15]
            ·replace hF:=AaY h16 hF;have h16_:=h16;try simp at h16_
             have F16:=A3 F14 h16 h16_;refine CF (by simp [F16] <;> omega) ?_;refine AW.skip ?_;refine hK775 _ _ _ ?_;refine AW.midF (α:=Bool) (fun v7=>Aav.J2 k v5 (fun v5_=>Aav.L1 k v0 v1 v2 n1 v5_) v7=some v3) (fun v7=>[(1,AV.ptr 0 0),(3,Iz v5),(104,AV.bool v7)]) (fun v7=>[(0,.cells [Iz v0,Q2 v1,Lz v2])]) 1 (fun K787 hK787=>?_) ?_
             ·refine RG [] [none,none,none,some (80,true),some (80,true),some (80,true),some (80,true),some (80,true),some (80,true),some (80,true),some (80,true),some (80,true),none,none,some (91,false),some (91,false),some (91,false),some (91,false),some (91,false),none,none,some (98,false),some (98,false),some (98,false),some (98,false),some (98,false),none] fun _ _ g r=>?_;by_cases h18 : 0<v5
              ·replace hF:=AaX h18 hF;have h18_:=h18;try simp at h18_
               obtain ⟨v8,h19,h20,h21,hF⟩:=Aaa hF;have h21_:=Aao h21;try simp at h21_
               have h20_:=h20;try simp at h20_
               have F17:=A8 F16 h18 h18_ h19 h20 h21 h21_ h20_;try simp [F17]
               and_intros
               try any_goals first | omega | (simp [maxLen,F17] <;> omega)
               obtain ⟨v9,h22,hF⟩:=AaO hF;refine AC (Ae8 k _ _ _ _ _ _ _ h22) (.cons (.same (by simp [F17])) (.cons (.same (by simp [F17])) .nil)) ?_;by_cases h23 : (!v9)=true
               ·replace hF:=AaX h23 hF;have h23_:=h23;try simp at h23_
                have F18:=A3 F17 h23 h23_;try simp [F18]
                and_intros <;> first | exact GK g | apply r | omega | (simp [maxLen,F18] <;> omega)
                refine hK787 _ _ _ ?_;refine RN h0 [(0,0)] [(1,AV.ptr 0 0),(3,Iz v5),(104,AV.bool true)] [(0,.cells [Iz v0,Q2 v1,Lz v2])] 1 (by simp [F18]) (by simp [F18]) ?_;exact JN (true) hF (by simp [F18]) (by simp [F18])
               ·replace hF:=AaY h23 hF;have h23_:=h23;try simp at h23_
                have F19:=A3 F17 h23 h23_;try simp [F19]
                and_intros
                try any_goals first | omega | (simp [maxLen,F19] <;> omega)
                obtain ⟨v10,h24,hF⟩:=AaO hF;refine AC (Ac3 k _ _ _ h24) (.cons (.same (by simp [F19])) (.cons (.same (by simp [F19])) .nil)) ?_;by_cases h25 : v10=true
                ·replace hF:=AaX h25 hF;have h25_:=h25;try simp at h25_
                 have F20:=A3 F19 h25 h25_;try simp [F20]
                 and_intros <;> first | exact GK g | apply r | omega | (simp [maxLen,F20] <;> omega)
                 refine hK787 _ _ _ ?_;refine RN h0 [(0,0)] [(1,AV.ptr 0 0),(3,Iz v5),(104,AV.bool true)] [(0,.cells [Iz v0,Q2 v1,Lz v2])] 1 (by simp [F20]) (by simp [F20]) ?_;exact JN (true) hF (by simp [F20]) (by simp [F20])
                ·replace hF:=AaY h25 hF;have h25_:=h25;try simp at h25_
                 have F21:=A3 F19 h25 h25_;try simp [F21]
                 and_intros
                 try any_goals first | omega | (simp [maxLen,F21] <;> omega)
                 obtain ⟨v11,h26,hF⟩:=AaO hF;refine AC (Ac3 k _ _ _ h26) (.cons (.same (by simp [F21])) (.cons (.same (by simp [F21])) .nil)) ?_;try simp [F21]
                 and_intros <;> first | exact GK g | apply r | omega | (simp [maxLen,F21] <;> omega)
                 refine hK787 _ _ _ ?_;refine RN h0 [(0,0)] [(1,AV.ptr 0 0),(3,Iz v5),(104,AV.bool v11)] [(0,.cells [Iz v0,Q2 v1,Lz v2])] 1 (by simp [F21]) (by simp [F21]) ?_;exact JN (v11) hF (by simp [F21]) (by simp [F21])
              ·replace hF:=AaY h18 hF;have h18_:=h18;try simp at h18_
               have F22:=A3 F16 h18 h18_;try simp [F22]
               and_intros
               try any_goals first | omega | (simp [maxLen,F22] <;> omega)
               obtain ⟨v12,h27,hF⟩:=AaO hF;refine AC (Ac3 k _ _ _ h27) (.cons (.same (by simp [F22])) (.cons (.same (by simp [F22])) .nil)) ?_;by_cases h28 : v12=true
               ·replace hF:=AaX h28 hF;have h28_:=h28;try simp at h28_
                have F23:=A3 F22 h28 h28_;try simp [F23]
                and_intros <;> first | exact GK g | apply r | omega | (simp [maxLen,F23] <;> omega)
                refine hK787 _ _ _ ?_;refine RN h0 [(0,0)] [(1,AV.ptr 0 0),(3,Iz v5),(104,AV.bool true)] [(0,.cells [Iz v0,Q2 v1,Lz v2])] 1 (by simp [F23]) (by simp [F23]) ?_;exact JN (true) hF (by simp [F23]) (by simp [F23])
               ·replace hF:=AaY h28 hF;have h28_:=h28;try simp at h28_
                have F24:=A3 F22 h28 h28_;try simp [F24]
                and_intros
                try any_goals first | omega | (simp [maxLen,F24] <;> omega)
                obtain ⟨v13,h29,hF⟩:=AaO hF;refine AC (Ac3 k _ _ _ h29) (.cons (.same (by simp [F24])) (.cons (.same (by simp [F24])) .nil)) ?_;try simp [F24]
                and_intros <;> first | exact GK g | apply r | omega | (simp [maxLen,F24] <;> omega)
                refine hK787 _ _ _ ?_;refine RN h0 [(0,0)] [(1,AV.ptr 0 0),(3,Iz v5),(104,AV.bool v13)] [(0,.cells [Iz v0,Q2 v1,Lz v2])] 1 (by simp [F24]) (by simp [F24]) ?_;exact JN (v13) hF (by simp [F24]) (by simp [F24])
             ·rintro v7 hF
              try dsimp only at hF
              unfold Aav.J2 at hF;by_cases h17 : v7=true
              ·replace hF:=AaX h17 hF;have h17_:=h17;try simp at h17_
               have F25:=A3 F16 h17 h17_;refine CT (by simp [F25] <;> omega) ?_;refine SQ [] [none] fun _ _ g r=>?_;try simp [F25]
               and_intros <;> first | exact GK g | apply r | omega | (simp [maxLen,F25] <;> omega)
               refine WK [(2,Iz 14)] [] 1 (by simp [F25]) (by simp [F25]) ?_;simp only [Option.some.injEq] at hF;subst hF;refine AW.ret (hQ _ _ _ ?_ (AaF ?_)).1
               ·simp [Try.f63,F25]
               ·simp [F25]
              ·replace hF:=AaY h17 hF;have h17_:=h17;try simp at h17_
               have F26:=A3 F16 h17 h17_;refine CF (by simp [F26] <;> omega) ?_;refine AW.skip ?_;refine hK765 _ _ _ ?_;refine RG [] [none,none,none] fun _ _ g r=>?_;try simp [F26]
               and_intros <;> first | exact GK g | apply r | omega | (simp [maxLen,F26] <;> omega)
               refine hK740 _ _ _ ?_;exact NX (k':=n1) (IntKind.wrap .i64 (v5+1)) hF (by simp [F26]) (by simp [F26])
     ·replace hF:=AaY h6 hF;have h6_:=h6;try simp at h6_
      have F27:=A3 F5 h6 h6_;refine CF (by simp [F27] <;> omega) ?_;refine AW.exit ?_;try simp
      refine hK597 _ _ _ ?_;refine SQ [] [none] fun _ _ g r=>?_;try simp [F27]
      and_intros <;> first | exact GK g | apply r | omega | (simp [maxLen,F27] <;> omega)
      refine WK [(2,Iz 0)] [] 1 (by simp [F27]) (by simp [F27]) ?_;simp only [Option.some.injEq] at hF;subst hF;refine AW.ret (hQ _ _ _ ?_ (AaF ?_)).1
      ·simp [Try.f63,F27]
      ·simp [F27]
theorem Ahn (k : Nat) (v0 : Int) (v1 : (List AaA)) (v2 : (List Int)) (v3 : Int) (v4 : Int) (v5 : Int) (v6 : Bool) (hF : AbC k v0 v1 v2 v3 v4=some (v5,v6)) :
 Aa9 Try.prog 64 [AV.agg [AV.int .i64 v0,Q2 v1,AV.lst false false (List.map (AV.int .i64) v2)],AV.int .i64 v3,AV.int .i64 v4] [] (AV.tup [AV.int .i64 v5,AV.bool v6]) []:=by
 unfold AbC at hF;refine EN Try.func64 ?_;intro c0 w0 Q h0 hQ
 refine WK [(0,AV.agg [Iz v0,Q2 v1,Lz v2]),(1,Iz v3),(2,Iz v4)] [] 0 (by simp) (by simp) ?_;refine SQ [] [none,none,none] fun _ _ g r=>?_;try simp
 and_intros <;> first | exact GK g | apply r | omega | (simp [maxLen] <;> omega)
 refine WK [(1,Iz v3),(2,Iz v4),(3,AV.ptr 0 0)] [(0,.cells [Iz v0,Q2 v1,Lz v2])] 1 (by simp) (by simp) ?_;refine SQ [] [none] fun _ _ g r=>?_;try simp
 and_intros <;> first | exact GK g | apply r | omega | (simp [maxLen] <;> omega)
 refine WK [(1,Iz v3),(2,Iz v4),(3,AV.ptr 0 0),(8,Iz 0)] [(0,.cells [Iz v0,Q2 v1,Lz v2])] 1 (by simp) (by simp) ?_;refine AW.midF (α:=Int) (fun v7=>AbC.J1 k v1 v3 v4 v7=some (v5,v6)) (fun v7=>[(1,Iz v3),(2,Iz v4),(3,AV.ptr 0 0),(8,Iz v7)]) (fun v7=>[(0,.cells [Iz v0,Q2 v1,Lz v2])]) 1 (fun K59 hK59=>?_) ?_
 ·refine AW.block ?_;refine AW.loopF (α:=Int) (fun n v9=>AbC.L2 k v1 v3 v4 n v9=some (v5,v6)) (fun v9=>[(1,Iz v3),(2,Iz v4),(3,AV.ptr 0 0),(8,Iz v9)]) (fun v9=>[(0,.cells [Iz v0,Q2 v1,Lz v2])]) 1 k (0) hF (by simp) (by simp) (by simp) ?_;rintro (_|n2) v9 hF K72 hK72
  ·try dsimp only at hF
   rw [AbC.L2] at hF; cases hF
  try dsimp only at hF
  rw [AbC.L2] at hF;refine AW.seq fun K74 hK74=>?_;refine SQ [] [none,none,none,none,none,none,some (14,true),some (14,true),some (14,true),some (14,true),some (14,true),some (14,true),some (14,true),some (14,true),some (14,true),none] fun _ _ g r=>?_;by_cases h6 : v9<(v1.length : Int)
  ·replace hF:=AaX h6 hF;have h6_:=h6;try simp at h6_
   obtain ⟨v10,h7,h8,h9,hF⟩:=Aaa hF;have h9_:=Aao h9;try simp at h9_
   have h8_:=h8;try simp at h8_
   have F1:=A7 h6 h6_ h7 h8 h9 h9_ h8_;try simp [F1]
   and_intros
   try any_goals first | omega | (simp [maxLen,F1] <;> omega)
   obtain ⟨v11,h10,hF⟩:=AaO hF;refine AC (Ae8 k _ _ _ _ _ _ _ h10) (.cons (.same (by simp [F1])) (.cons (.same (by simp [F1])) .nil)) ?_;try simp [F1]
   and_intros <;> first | exact GK g | apply r | omega | (simp [maxLen,F1] <;> omega)
   refine WK [(1,Iz v3),(2,Iz v4),(3,AV.ptr 0 0),(8,Iz v9),(24,AV.bool v11)] [(0,.cells [Iz v0,Q2 v1,Lz v2])] 1 (by simp [F1]) (by simp [F1]) ?_;by_cases h11 : v11=true
   ·replace hF:=AaX h11 hF;have h11_:=h11;try simp at h11_
    have F2:=A3 F1 h11 h11_;refine CT (by simp [F2] <;> omega) ?_;refine AW.skip ?_;refine hK74 _ _ _ ?_;refine AW.block ?_;refine RG [] [none,none,none] fun _ _ g r=>?_;try simp [F2]
    and_intros <;> first | exact GK g | apply r | omega | (simp [maxLen,F2] <;> omega)
    refine hK72 _ _ _ ?_;exact NX (k':=n2) (IntKind.wrap .i64 (v9+1)) hF (by simp [F2]) (by simp [F2])
   ·replace hF:=AaY h11 hF;have h11_:=h11;try simp at h11_
    have F3:=A3 F1 h11 h11_;refine CF (by simp [F3] <;> omega) ?_;refine AW.exit ?_;try simp
    refine hK59 _ _ _ ?_;exact JN (v9) hF (by simp [F3]) (by simp [F3])
  ·replace hF:=AaY h6 hF;have h6_:=h6;try simp at h6_
   try simp [h6,h6_]
   and_intros <;> first | exact GK g | apply r | omega | (simp [h6,h6_,maxLen] <;> omega)
   refine WK [(1,Iz v3),(2,Iz v4),(3,AV.ptr 0 0),(8,Iz v9),(24,AV.bool false)] [(0,.cells [Iz v0,Q2 v1,Lz v2])] 1 (by simp [h6,h6_]) (by simp [h6,h6_]) ?_;refine CF (by simp [h6,h6_]) ?_;refine AW.exit ?_;try simp
   refine hK59 _ _ _ ?_;exact JN (v9) hF (by simp [h6,h6_]) (by simp [h6,h6_])
 ·rintro v7 hF
  try dsimp only at hF
  unfold AbC.J1 at hF;refine SQ [] [none,none,none,none,none,none,none,some (33,true),some (33,true),some (33,true),some (33,true),some (33,true),some (33,true),some (33,true),some (33,true),none,none,some (43,true),some (43,true),some (43,true),some (43,true),some (43,true),some (43,true),some (43,true),some (43,true),none,none,none] fun _ _ g r=>?_;by_cases h1 : v7<(v1.length : Int)
  ·replace hF:=AaX h1 hF;have h1_:=h1;try simp at h1_
   obtain ⟨v8,h2,h3,h4,hF⟩:=Aaa hF;have h4_:=Aao h4;try simp at h4_
   have h3_:=h3;try simp at h3_
   by_cases h5 : v8.From=v3
   ·replace hF:=AaX h5 hF;have h5q : v8.From=v3:=h5;have h5_:=Abx h5q;have h5__:=Abw h5q;have F4:=A9 h1 h1_ h2 h3 h4 h4_ h3_ h5_ h5__;try simp [F4]
    and_intros <;> first | exact GK g | apply r | omega | (simp [maxLen,F4] <;> omega)
    refine WK [(6,Iz v7),(7,AV.bool (v8.To==v4))] [] 1 (by simp [F4]) (by simp [F4]) ?_;simp only [Option.some.injEq,Prod.mk.injEq] at hF;obtain ⟨e0,e1⟩:=hF;subst e0 e1;refine AW.ret (hQ _ _ _ ?_ (AaF ?_)).1
    ·simp [Try.f64,F4]
    ·simp [F4]
   ·replace hF:=AaY h5 hF;have h5_:=Abo h5;have h5__:=Abt h5;have F5:=A9 h1 h1_ h2 h3 h4 h4_ h3_ h5 (A2 h5_ h5__);try simp [F5]
    and_intros <;> first | exact GK g | apply r | omega | (simp [maxLen,F5] <;> omega)
    refine WK [(6,Iz v7),(7,AV.bool false)] [] 1 (by simp [F5]) (by simp [F5]) ?_;simp only [Option.some.injEq,Prod.mk.injEq] at hF;obtain ⟨e0,e1⟩:=hF;subst e0 e1;refine AW.ret (hQ _ _ _ ?_ (AaF ?_)).1
    ·simp [Try.f64,F5]
    ·simp [F5]
  ·replace hF:=AaY h1 hF;have h1_:=h1;try simp at h1_
   try simp [h1,h1_]
   and_intros <;> first | exact GK g | apply r | omega | (simp [h1,h1_,maxLen] <;> omega)
   refine WK [(6,Iz v7),(7,AV.bool false)] [] 1 (by simp [h1,h1_]) (by simp [h1,h1_]) ?_;simp only [Option.some.injEq,Prod.mk.injEq] at hF;obtain ⟨e0,e1⟩:=hF;subst e0 e1;refine AW.ret (hQ _ _ _ ?_ (AaF ?_)).1
   ·simp [Try.f64,h1,h1_]
   ·simp [h1,h1_]
theorem Ag6 (k : Nat) (v0 : Int) (v1 : (List AaA)) (v2 : (List Int)) (v3 : Int) (v4 : (List AaA)) (v5 : (List Int)) (hF : Adh k v0 v1 v2=some (v3,v4,v5)) :
 Aa9 Try.prog 56 [AV.agg [AV.int .i64 v0,Q2 v1,AV.lst false false (List.map (AV.int .i64) v2)]] [] (AV.agg [AV.int .i64 v3,AV.slc 0 0 3 v4.length false,AV.slc 1 0 1 v5.length false]) [some (.grow (AaL (List.map AaA.av v4))),some (Gi v5)]:=by
 unfold Adh at hF;refine EN Try.func56 ?_;intro c0 w0 Q h0 hQ
 refine WK [(0,AV.agg [Iz v0,Q2 v1,Lz v2])] [] 0 (by simp) (by simp) ?_;refine SQ [] [none,none] fun _ _ g r=>?_;try simp
 and_intros <;> first | exact GK g | apply r | omega | (simp [maxLen] <;> omega)
 refine WK [(1,AV.ptr 0 0),(2,AV.ptr 1 0)] [(0,.cells [Iz v0,Q2 v1,Lz v2]),(1,.cells [Iz 0,AV.lst true true (List.map AaA.av ([] : List AaA)),AV.lst true true (List.map (AV.int .i64) ([] : List Int))])] 2 (by simp) (by simp) ?_;refine SQ [7,10] [none,none,none,none,none,none,none,none,none,none] fun _ _ g r=>?_;obtain ⟨h1,hF⟩:=AaZ hF;have h1_:=h1;try simp at h1_
 obtain ⟨h2,hF⟩:=AaZ hF;have h2_:=h2;try simp at h2_
 try simp [h1,h2]
 and_intros <;> first | exact GK g | apply r | omega | (simp [h1,h2,maxLen] <;> omega)
 refine RM h0 [(0,2),(1,3),(2,1)] [(2,AV.ptr 2 0)] [(0,.grow (AaL (List.map AaA.av v1))),(1,Gi v2),(2,.cells [Iz v0,AV.slc 0 0 3 v1.length false,AV.slc 1 0 1 v2.length false])] 3 (by simp [h1,h2]) (by simp [h1,h2]) ?_;simp only [Option.some.injEq,Prod.mk.injEq] at hF;obtain ⟨e0,e1,e2⟩:=hF;subst e0 e1 e2;refine AW.ret (hQ _ _ _ ?_ (AaF ?_)).1
 ·simp [Try.f56,h1,h2]
 ·simp [h1,h2]
abbrev Aaf  : Aas := .cells [Iz 0,AV.lst true true (List.map AaA.av ([] : List AaA)),AV.lst true true (List.map (AV.int .i64) ([] : List Int))]
abbrev AbJ  : Aas := .cells [Iz 0,AV.slc 0 0 3 (([] : List AaA).length) false,AV.slc 1 0 1 (([] : List Int).length) false]
theorem Ag5 (k : Nat) (v0 : Int) (v1 : (List AaA)) (v2 : (List Int)) (v3 : Int) (v4 : Int) (v5 : Int) (v6 : Int) (v7 : (List AaA)) (v8 : (List Int)) (v9 : Int) (hF : AdC k v0 v1 v2 v3 v4 v5=some (v6,v7,v8,v9)) :
 Aa9 Try.prog 35 [AV.agg [AV.int .i64 v0,Q2 v1,AV.lst false false (List.map (AV.int .i64) v2)],AV.agg [AV.int .i64 v3,AV.int .i64 v4,AV.int .i64 v5]] [] (AV.tup [AV.agg [AV.int .i64 v6,AV.slc 0 0 3 v7.length false,AV.slc 1 0 1 v8.length false],AV.int .i64 v9]) [some (.grow (AaL (List.map AaA.av v7))),some (Gi v8)]:=by
 unfold AdC at hF;refine EN Try.func35 ?_;intro c0 w0 Q h0 hQ
 refine WK [(0,AV.agg [Iz v0,Q2 v1,Lz v2]),(1,AV.agg [Iz v3,Iz v4,Iz v5])] [] 0 (by simp) (by simp) ?_;refine SQ [] [none,none,none,none] fun _ _ g r=>?_;try simp
 and_intros <;> first | exact GK g | apply r | omega | (simp [maxLen] <;> omega)
 refine WK [(2,AV.ptr 0 0),(3,AV.ptr 1 0),(4,AV.ptr 2 0)] [(0,.cells [Iz v0,Q2 v1,Lz v2]),(1,.cells [Iz v3,Iz v4,Iz v5]),(2,Aaf )] 3 (by simp) (by simp) ?_;refine AW.seq fun K45 hK45=>?_;refine SQ [] [none,none,none] fun _ _ g r=>?_;try simp
 and_intros
 try any_goals first | omega | (simp [maxLen] <;> omega)
 obtain ⟨v10,h1,hF⟩:=AaO hF;refine AC (Aho k _ _ _ _ h1) (.cons (.same (by simp)) .nil) ?_;try simp
 and_intros <;> first | exact GK g | apply r | omega | (simp [maxLen] <;> omega)
 refine WK [(2,AV.ptr 0 0),(3,AV.ptr 1 0),(4,AV.ptr 2 0),(11,AV.bool (v10 !=0))] [(0,.cells [Iz v0,Q2 v1,Lz v2]),(1,.cells [Iz v3,Iz v4,Iz v5]),(2,Aaf )] 3 (by simp) (by simp) ?_;by_cases h2 : v10≠0
 ·replace hF:=AaX h2 hF;have h2_:=Abo h2;have h2__:=Abt h2;have F1:=A3 h2 h2_ h2__;refine CT (by simp [F1] <;> omega) ?_;refine SQ [] [none,none,none] fun _ _ g r=>?_;try simp [F1]
  and_intros <;> first | exact GK g | apply r | omega | (simp [maxLen,F1] <;> omega)
  refine WK [(4,AV.ptr 2 0),(5,Iz 14)] [(2,Aaf )] 3 (by simp [F1]) (by simp [F1]) ?_;refine AW.ownC 2 1 3 true (cs:=[Iz 0,AV.lst true true (List.map AaA.av ([] : List AaA)),AV.lst true true (List.map (AV.int .i64) ([] : List Int))]) (by simp [F1]) (by simp) ?_;refine AW.ownC 2 2 1 true (cs:=[Iz 0,AV.slc 3 0 3 (([] : List AaA).length) false,AV.lst true true (List.map (AV.int .i64) ([] : List Int))]) (by simp [F1]) (by simp) ?_;refine RM h0 [(0,3),(1,4),(2,2)] [(4,AV.ptr 2 0),(5,Iz 14)] [(0,.grow (AaL (List.map AaA.av ([] : List AaA)))),(1,Gi ([] : List Int)),(2,AbJ )] 3 (by simp [F1]) (by simp [F1]) ?_;simp only [Option.some.injEq,Prod.mk.injEq] at hF;obtain ⟨e0,e1,e2,e3⟩:=hF;subst e0 e1 e2 e3;refine AW.ret (hQ _ _ _ ?_ (AaF ?_)).1
  ·simp [Try.f35,F1]
  ·simp [F1]
 ·replace hF:=AaY h2 hF;have h2q : v10=0:=Classical.not_not.1 h2;have h2_:=Abx h2q;have h2__:=Abw h2q;have F2:=A3 h2_ h2__ h2q;refine CF (by simp [F2] <;> omega) ?_;refine AW.skip ?_;refine hK45 _ _ _ ?_;refine SQ [] [none,none,none,none,none,none,none,none,none,none,none] fun _ _ g r=>?_;try simp [F2]
  and_intros
  try any_goals first | omega | (simp [maxLen,F2] <;> omega)
  obtain ⟨v11,v12,h3,hF⟩:=Aa8 hF;refine AC (Ahn k _ _ _ _ _ _ _ h3) (.cons (.same (by simp [F2])) (.cons (.same (by simp [F2])) (.cons (.same (by simp [F2])) .nil))) ?_;try simp [F2]
  and_intros <;> first | exact GK g | apply r | omega | (simp [maxLen,F2] <;> omega)
  refine WK [(2,AV.ptr 0 0),(3,AV.ptr 1 0),(4,AV.ptr 2 0),(6,Iz v11),(7,AV.bool v12)] [(0,.cells [Iz v0,Q2 v1,Lz v2]),(1,.cells [Iz v3,Iz v4,Iz v5]),(2,Aaf )] 3 (by simp [F2]) (by simp [F2]) ?_;refine AW.seq fun K64 hK64=>?_;refine AW.block ?_;refine SQ [] [none,none,none,none,some (26,false),some (26,false),some (26,false),some (26,false),some (26,false),none,none,some (33,false),some (33,false),some (33,false),none,none,some (38,false),some (38,false),some (38,false),some (38,false),some (38,false),none,none,some (45,false),some (45,false),some (45,false),some (45,false),some (45,false),none,none,some (52,false),some (52,false),some (52,false),some (52,false),some (52,false),none,none,some (59,false),some (59,false),some (59,false),some (59,false),some (59,false),none,none] fun _ _ g r=>?_;by_cases h4 : v3<0
  ·replace hF:=AaX h4 hF;have h4_:=h4;try simp at h4_
   have F3:=A3 F2 h4 h4_;try simp [F3]
   and_intros <;> first | exact GK g | apply r | omega | (simp [maxLen,F3] <;> omega)
   refine WK [(2,AV.ptr 0 0),(3,AV.ptr 1 0),(4,AV.ptr 2 0),(6,Iz v11),(7,AV.bool v12),(22,AV.bool true)] [(0,.cells [Iz v0,Q2 v1,Lz v2]),(1,.cells [Iz v3,Iz v4,Iz v5]),(2,Aaf )] 3 (by simp [F3]) (by simp [F3]) ?_;refine CT (by simp [F3]) ?_;refine SQ [] [none,none,none] fun _ _ g r=>?_;try simp [F3]
   and_intros <;> first | exact GK g | apply r | omega | (simp [maxLen,F3] <;> omega)
   refine WK [(4,AV.ptr 2 0),(5,Iz 4)] [(2,Aaf )] 3 (by simp [F3]) (by simp [F3]) ?_;refine AW.ownC 2 1 3 true (cs:=[Iz 0,AV.lst true true (List.map AaA.av ([] : List AaA)),AV.lst true true (List.map (AV.int .i64) ([] : List Int))]) (by simp [F3]) (by simp) ?_;refine AW.ownC 2 2 1 true (cs:=[Iz 0,AV.slc 3 0 3 (([] : List AaA).length) false,AV.lst true true (List.map (AV.int .i64) ([] : List Int))]) (by simp [F3]) (by simp) ?_;refine RM h0 [(0,3),(1,4),(2,2)] [(4,AV.ptr 2 0),(5,Iz 4)] [(0,.grow (AaL (List.map AaA.av ([] : List AaA)))),(1,Gi ([] : List Int)),(2,AbJ )] 3 (by simp [F3]) (by simp [F3]) ?_;simp only [Option.some.injEq,Prod.mk.injEq] at hF;obtain ⟨e0,e1,e2,e3⟩:=hF;subst e0 e1 e2 e3;refine AW.ret (hQ _ _ _ ?_ (AaF ?_)).1
   ·simp [Try.f35,F3]
   ·simp [F3]
  ·replace hF:=AaY h4 hF;have h4_:=h4;try simp at h4_
   by_cases h5 : v0≤v3
   ·replace hF:=AaX h5 hF;have h5_:=h5;try simp at h5_
    have F4:=A5 F2 h4 h4_ h5 h5_;try simp [F4]
    and_intros <;> first | exact GK g | apply r | omega | (simp [maxLen,F4] <;> omega)
    refine WK [(2,AV.ptr 0 0),(3,AV.ptr 1 0),(4,AV.ptr 2 0),(6,Iz v11),(7,AV.bool v12),(22,AV.bool true)] [(0,.cells [Iz v0,Q2 v1,Lz v2]),(1,.cells [Iz v3,Iz v4,Iz v5]),(2,Aaf )] 3 (by simp [F4]) (by simp [F4]) ?_;refine CT (by simp [F4]) ?_;refine SQ [] [none,none,none] fun _ _ g r=>?_;try simp [F4]
    and_intros <;> first | exact GK g | apply r | omega | (simp [maxLen,F4] <;> omega)
    refine WK [(4,AV.ptr 2 0),(5,Iz 4)] [(2,Aaf )] 3 (by simp [F4]) (by simp [F4]) ?_;refine AW.ownC 2 1 3 true (cs:=[Iz 0,AV.lst true true (List.map AaA.av ([] : List AaA)),AV.lst true true (List.map (AV.int .i64) ([] : List Int))]) (by simp [F4]) (by simp) ?_;refine AW.ownC 2 2 1 true (cs:=[Iz 0,AV.slc 3 0 3 (([] : List AaA).length) false,AV.lst true true (List.map (AV.int .i64) ([] : List Int))]) (by simp [F4]) (by simp) ?_;refine RM h0 [(0,3),(1,4),(2,2)] [(4,AV.ptr 2 0),(5,Iz 4)] [(0,.grow (AaL (List.map AaA.av ([] : List AaA)))),(1,Gi ([] : List Int)),(2,AbJ )] 3 (by simp [F4]) (by simp [F4]) ?_;simp only [Option.some.injEq,Prod.mk.injEq] at hF;obtain ⟨e0,e1,e2,e3⟩:=hF;subst e0 e1 e2 e3;refine AW.ret (hQ _ _ _ ?_ (AaF ?_)).1
    ·simp [Try.f35,F4]
    ·simp [F4]
   ·replace hF:=AaY h5 hF;have h5_:=h5;try simp at h5_
    by_cases h6 : v4<0
    ·replace hF:=AaX h6 hF;have h6_:=h6;try simp at h6_
     have F5:=A7 F2 h4 h4_ h5 h5_ h6 h6_;try simp [F5]
     and_intros <;> first | exact GK g | apply r | omega | (simp [maxLen,F5] <;> omega)
     refine WK [(2,AV.ptr 0 0),(3,AV.ptr 1 0),(4,AV.ptr 2 0),(6,Iz v11),(7,AV.bool v12),(22,AV.bool true)] [(0,.cells [Iz v0,Q2 v1,Lz v2]),(1,.cells [Iz v3,Iz v4,Iz v5]),(2,Aaf )] 3 (by simp [F5]) (by simp [F5]) ?_;refine CT (by simp [F5]) ?_;refine SQ [] [none,none,none] fun _ _ g r=>?_;try simp [F5]
     and_intros <;> first | exact GK g | apply r | omega | (simp [maxLen,F5] <;> omega)
     refine WK [(4,AV.ptr 2 0),(5,Iz 4)] [(2,Aaf )] 3 (by simp [F5]) (by simp [F5]) ?_;refine AW.ownC 2 1 3 true (cs:=[Iz 0,AV.lst true true (List.map AaA.av ([] : List AaA)),AV.lst true true (List.map (AV.int .i64) ([] : List Int))]) (by simp [F5]) (by simp) ?_;refine AW.ownC 2 2 1 true (cs:=[Iz 0,AV.slc 3 0 3 (([] : List AaA).length) false,AV.lst true true (List.map (AV.int .i64) ([] : List Int))]) (by simp [F5]) (by simp) ?_;refine RM h0 [(0,3),(1,4),(2,2)] [(4,AV.ptr 2 0),(5,Iz 4)] [(0,.grow (AaL (List.map AaA.av ([] : List AaA)))),(1,Gi ([] : List Int)),(2,AbJ )] 3 (by simp [F5]) (by simp [F5]) ?_;simp only [Option.some.injEq,Prod.mk.injEq] at hF;obtain ⟨e0,e1,e2,e3⟩:=hF;subst e0 e1 e2 e3;refine AW.ret (hQ _ _ _ ?_ (AaF ?_)).1
     ·simp [Try.f35,F5]
     ·simp [F5]
    ·replace hF:=AaY h6 hF;have h6_:=h6;try simp at h6_
     by_cases h7 : v0≤v4
     ·replace hF:=AaX h7 hF;have h7_:=h7;try simp at h7_
      have F6:=A9 F2 h4 h4_ h5 h5_ h6 h6_ h7 h7_;try simp [F6]
      and_intros <;> first | exact GK g | apply r | omega | (simp [maxLen,F6] <;> omega)
      refine WK [(2,AV.ptr 0 0),(3,AV.ptr 1 0),(4,AV.ptr 2 0),(6,Iz v11),(7,AV.bool v12),(22,AV.bool true)] [(0,.cells [Iz v0,Q2 v1,Lz v2]),(1,.cells [Iz v3,Iz v4,Iz v5]),(2,Aaf )] 3 (by simp [F6]) (by simp [F6]) ?_;refine CT (by simp [F6]) ?_;refine SQ [] [none,none,none] fun _ _ g r=>?_;try simp [F6]
      and_intros <;> first | exact GK g | apply r | omega | (simp [maxLen,F6] <;> omega)
      refine WK [(4,AV.ptr 2 0),(5,Iz 4)] [(2,Aaf )] 3 (by simp [F6]) (by simp [F6]) ?_;refine AW.ownC 2 1 3 true (cs:=[Iz 0,AV.lst true true (List.map AaA.av ([] : List AaA)),AV.lst true true (List.map (AV.int .i64) ([] : List Int))]) (by simp [F6]) (by simp) ?_;refine AW.ownC 2 2 1 true (cs:=[Iz 0,AV.slc 3 0 3 (([] : List AaA).length) false,AV.lst true true (List.map (AV.int .i64) ([] : List Int))]) (by simp [F6]) (by simp) ?_;refine RM h0 [(0,3),(1,4),(2,2)] [(4,AV.ptr 2 0),(5,Iz 4)] [(0,.grow (AaL (List.map AaA.av ([] : List AaA)))),(1,Gi ([] : List Int)),(2,AbJ )] 3 (by simp [F6]) (by simp [F6]) ?_;simp only [Option.some.injEq,Prod.mk.injEq] at hF;obtain ⟨e0,e1,e2,e3⟩:=hF;subst e0 e1 e2 e3;refine AW.ret (hQ _ _ _ ?_ (AaF ?_)).1
      ·simp [Try.f35,F6]
      ·simp [F6]
     ·replace hF:=AaY h7 hF;have h7_:=h7;try simp at h7_
      by_cases h8 : v3=v4
      ·replace hF:=AaX h8 hF;have h8q : v3=v4:=h8;have h8_:=Abx h8q;have h8__:=Abw h8q;have F7:=A9 F2 h4 h4_ h5 h5_ h6 h6_ h7 (A3 h7_ h8_ h8__);try simp [F7]
       and_intros <;> first | exact GK g | apply r | omega | (simp [maxLen,F7] <;> omega)
       refine WK [(2,AV.ptr 0 0),(3,AV.ptr 1 0),(4,AV.ptr 2 0),(6,Iz v11),(7,AV.bool v12),(22,AV.bool true)] [(0,.cells [Iz v0,Q2 v1,Lz v2]),(1,.cells [Iz v3,Iz v4,Iz v5]),(2,Aaf )] 3 (by simp [F7]) (by simp [F7]) ?_;refine CT (by simp [F7]) ?_;refine SQ [] [none,none,none] fun _ _ g r=>?_;try simp [F7]
       and_intros <;> first | exact GK g | apply r | omega | (simp [maxLen,F7] <;> omega)
       refine WK [(4,AV.ptr 2 0),(5,Iz 4)] [(2,Aaf )] 3 (by simp [F7]) (by simp [F7]) ?_;refine AW.ownC 2 1 3 true (cs:=[Iz 0,AV.lst true true (List.map AaA.av ([] : List AaA)),AV.lst true true (List.map (AV.int .i64) ([] : List Int))]) (by simp [F7]) (by simp) ?_;refine AW.ownC 2 2 1 true (cs:=[Iz 0,AV.slc 3 0 3 (([] : List AaA).length) false,AV.lst true true (List.map (AV.int .i64) ([] : List Int))]) (by simp [F7]) (by simp) ?_;refine RM h0 [(0,3),(1,4),(2,2)] [(4,AV.ptr 2 0),(5,Iz 4)] [(0,.grow (AaL (List.map AaA.av ([] : List AaA)))),(1,Gi ([] : List Int)),(2,AbJ )] 3 (by simp [F7]) (by simp [F7]) ?_;simp only [Option.some.injEq,Prod.mk.injEq] at hF;obtain ⟨e0,e1,e2,e3⟩:=hF;subst e0 e1 e2 e3;refine AW.ret (hQ _ _ _ ?_ (AaF ?_)).1
       ·simp [Try.f35,F7]
       ·simp [F7]
      ·replace hF:=AaY h8 hF;have h8_:=Abo h8;have h8__:=Abt h8;have F8:=A9 F2 h4 h4_ h5 h5_ h6 h6_ h7 (A4 h7_ h8 h8_ h8__);try simp [F8]
       and_intros
       try any_goals first | omega | (simp [maxLen,F8] <;> omega)
       obtain ⟨v13,h9,hF⟩:=AaO hF;refine AC (Ac3 k _ _ _ h9) (.cons (.same (by simp [F8])) (.cons (.same (by simp [F8])) .nil)) ?_;by_cases h10 : v13=true
       ·replace hF:=AaX h10 hF;have h10_:=h10;try simp at h10_
        have F9:=A3 F8 h10 h10_;try simp [F9]
        and_intros <;> first | exact GK g | apply r | omega | (simp [maxLen,F9] <;> omega)
        refine WK [(2,AV.ptr 0 0),(3,AV.ptr 1 0),(4,AV.ptr 2 0),(6,Iz v11),(7,AV.bool v12),(22,AV.bool true)] [(0,.cells [Iz v0,Q2 v1,Lz v2]),(1,.cells [Iz v3,Iz v4,Iz v5]),(2,Aaf )] 3 (by simp [F9]) (by simp [F9]) ?_;refine CT (by simp [F9]) ?_;refine SQ [] [none,none,none] fun _ _ g r=>?_;try simp [F9]
        and_intros <;> first | exact GK g | apply r | omega | (simp [maxLen,F9] <;> omega)
        refine WK [(4,AV.ptr 2 0),(5,Iz 4)] [(2,Aaf )] 3 (by simp [F9]) (by simp [F9]) ?_;refine AW.ownC 2 1 3 true (cs:=[Iz 0,AV.lst true true (List.map AaA.av ([] : List AaA)),AV.lst true true (List.map (AV.int .i64) ([] : List Int))]) (by simp [F9]) (by simp) ?_;refine AW.ownC 2 2 1 true (cs:=[Iz 0,AV.slc 3 0 3 (([] : List AaA).length) false,AV.lst true true (List.map (AV.int .i64) ([] : List Int))]) (by simp [F9]) (by simp) ?_;refine RM h0 [(0,3),(1,4),(2,2)] [(4,AV.ptr 2 0),(5,Iz 4)] [(0,.grow (AaL (List.map AaA.av ([] : List AaA)))),(1,Gi ([] : List Int)),(2,AbJ )] 3 (by simp [F9]) (by simp [F9]) ?_;simp only [Option.some.injEq,Prod.mk.injEq] at hF;obtain ⟨e0,e1,e2,e3⟩:=hF;subst e0 e1 e2 e3;refine AW.ret (hQ _ _ _ ?_ (AaF ?_)).1
        ·simp [Try.f35,F9]
        ·simp [F9]
       ·replace hF:=AaY h10 hF;have h10_:=h10;try simp at h10_
        have F10:=A3 F8 h10 h10_;try simp [F10]
        and_intros
        try any_goals first | omega | (simp [maxLen,F10] <;> omega)
        obtain ⟨v14,h11,hF⟩:=AaO hF;refine AC (Ac3 k _ _ _ h11) (.cons (.same (by simp [F10])) (.cons (.same (by simp [F10])) .nil)) ?_;try simp [F10]
        and_intros <;> first | exact GK g | apply r | omega | (simp [maxLen,F10] <;> omega)
        refine WK [(2,AV.ptr 0 0),(3,AV.ptr 1 0),(4,AV.ptr 2 0),(6,Iz v11),(7,AV.bool v12),(22,AV.bool v14)] [(0,.cells [Iz v0,Q2 v1,Lz v2]),(1,.cells [Iz v3,Iz v4,Iz v5]),(2,Aaf )] 3 (by simp [F10]) (by simp [F10]) ?_;by_cases h12 : v14=true
        ·replace hF:=AaX h12 hF;have h12_:=h12;try simp at h12_
         have F11:=A3 F10 h12 h12_;refine CT (by simp [F11] <;> omega) ?_;refine SQ [] [none,none,none] fun _ _ g r=>?_;try simp [F11]
         and_intros <;> first | exact GK g | apply r | omega | (simp [maxLen,F11] <;> omega)
         refine WK [(4,AV.ptr 2 0),(5,Iz 4)] [(2,Aaf )] 3 (by simp [F11]) (by simp [F11]) ?_;refine AW.ownC 2 1 3 true (cs:=[Iz 0,AV.lst true true (List.map AaA.av ([] : List AaA)),AV.lst true true (List.map (AV.int .i64) ([] : List Int))]) (by simp [F11]) (by simp) ?_;refine AW.ownC 2 2 1 true (cs:=[Iz 0,AV.slc 3 0 3 (([] : List AaA).length) false,AV.lst true true (List.map (AV.int .i64) ([] : List Int))]) (by simp [F11]) (by simp) ?_;refine RM h0 [(0,3),(1,4),(2,2)] [(4,AV.ptr 2 0),(5,Iz 4)] [(0,.grow (AaL (List.map AaA.av ([] : List AaA)))),(1,Gi ([] : List Int)),(2,AbJ )] 3 (by simp [F11]) (by simp [F11]) ?_;simp only [Option.some.injEq,Prod.mk.injEq] at hF;obtain ⟨e0,e1,e2,e3⟩:=hF;subst e0 e1 e2 e3;refine AW.ret (hQ _ _ _ ?_ (AaF ?_)).1
         ·simp [Try.f35,F11]
         ·simp [F11]
        ·replace hF:=AaY h12 hF;have h12_:=h12;try simp at h12_
         have F12:=A3 F10 h12 h12_;refine CF (by simp [F12] <;> omega) ?_;refine SQ [] [none,none,none,none,some (71,false),some (71,false),some (71,false),none,none] fun _ _ g r=>?_;by_cases h13 : v5<1
         ·replace hF:=AaX h13 hF;have h13_:=h13;try simp at h13_
          have F13:=A3 F12 h13 h13_;try simp [F13]
          and_intros <;> first | exact GK g | apply r | omega | (simp [maxLen,F13] <;> omega)
          refine WK [(2,AV.ptr 0 0),(3,AV.ptr 1 0),(4,AV.ptr 2 0),(6,Iz v11),(7,AV.bool v12),(67,AV.bool true)] [(0,.cells [Iz v0,Q2 v1,Lz v2]),(1,.cells [Iz v3,Iz v4,Iz v5]),(2,Aaf )] 3 (by simp [F13]) (by simp [F13]) ?_;refine CT (by simp [F13]) ?_;refine SQ [] [none,none,none] fun _ _ g r=>?_;try simp [F13]
          and_intros <;> first | exact GK g | apply r | omega | (simp [maxLen,F13] <;> omega)
          refine WK [(4,AV.ptr 2 0),(5,Iz 2)] [(2,Aaf )] 3 (by simp [F13]) (by simp [F13]) ?_;refine AW.ownC 2 1 3 true (cs:=[Iz 0,AV.lst true true (List.map AaA.av ([] : List AaA)),AV.lst true true (List.map (AV.int .i64) ([] : List Int))]) (by simp [F13]) (by simp) ?_;refine AW.ownC 2 2 1 true (cs:=[Iz 0,AV.slc 3 0 3 (([] : List AaA).length) false,AV.lst true true (List.map (AV.int .i64) ([] : List Int))]) (by simp [F13]) (by simp) ?_;refine RM h0 [(0,3),(1,4),(2,2)] [(4,AV.ptr 2 0),(5,Iz 2)] [(0,.grow (AaL (List.map AaA.av ([] : List AaA)))),(1,Gi ([] : List Int)),(2,AbJ )] 3 (by simp [F13]) (by simp [F13]) ?_;simp only [Option.some.injEq,Prod.mk.injEq] at hF;obtain ⟨e0,e1,e2,e3⟩:=hF;subst e0 e1 e2 e3;refine AW.ret (hQ _ _ _ ?_ (AaF ?_)).1
          ·simp [Try.f35,F13]
          ·simp [F13]
         ·replace hF:=AaY h13 hF;have h13_:=h13;try simp at h13_
          have F14:=A3 F12 h13 h13_;try simp [F14]
          and_intros <;> first | exact GK g | apply r | omega | (simp [maxLen,F14] <;> omega)
          refine WK [(2,AV.ptr 0 0),(3,AV.ptr 1 0),(4,AV.ptr 2 0),(6,Iz v11),(7,AV.bool v12),(67,AV.bool (decide (3<v5)))] [(0,.cells [Iz v0,Q2 v1,Lz v2]),(1,.cells [Iz v3,Iz v4,Iz v5]),(2,Aaf )] 3 (by simp [F14]) (by simp [F14]) ?_;by_cases h14 : 3<v5
          ·replace hF:=AaX h14 hF;have h14_:=h14;try simp at h14_
           have F15:=A3 F14 h14 h14_;refine CT (by simp [F15] <;> omega) ?_;refine SQ [] [none,none,none] fun _ _ g r=>?_;try simp [F15]
           and_intros <;> first | exact GK g | apply r | omega | (simp [maxLen,F15] <;> omega)
           refine WK [(4,AV.ptr 2 0),(5,Iz 2)] [(2,Aaf )] 3 (by simp [F15]) (by simp [F15]) ?_;refine AW.ownC 2 1 3 true (cs:=[Iz 0,AV.lst true true (List.map AaA.av ([] : List AaA)),AV.lst true true (List.map (AV.int .i64) ([] : List Int))]) (by simp [F15]) (by simp) ?_;refine AW.ownC 2 2 1 true (cs:=[Iz 0,AV.slc 3 0 3 (([] : List AaA).length) false,AV.lst true true (List.map (AV.int .i64) ([] : List Int))]) (by simp [F15]) (by simp) ?_;refine RM h0 [(0,3),(1,4),(2,2)] [(4,AV.ptr 2 0),(5,Iz 2)] [(0,.grow (AaL (List.map AaA.av ([] : List AaA)))),(1,Gi ([] : List Int)),(2,AbJ )] 3 (by simp [F15]) (by simp [F15]) ?_;simp only [Option.some.injEq,Prod.mk.injEq] at hF;obtain ⟨e0,e1,e2,e3⟩:=hF;subst e0 e1 e2 e3;refine AW.ret (hQ _ _ _ ?_ (AaF ?_)).1
           ·simp [Try.f35,F15]
           ·simp [F15]
          ·replace hF:=AaY h14 hF;have h14_:=h14;try simp at h14_
           have F16:=A3 F14 h14 h14_;refine CF (by simp [F16] <;> omega) ?_;refine SQ [] [none,none] fun _ _ g r=>?_;try simp [F16]
           and_intros <;> first | exact GK g | apply r | omega | (simp [maxLen,F16] <;> omega)
           refine WK [(2,AV.ptr 0 0),(3,AV.ptr 1 0),(4,AV.ptr 2 0),(6,Iz v11),(77,AV.bool v12)] [(0,.cells [Iz v0,Q2 v1,Lz v2]),(1,.cells [Iz v3,Iz v4,Iz v5]),(2,Aaf )] 3 (by simp [F16]) (by simp [F16]) ?_;by_cases h15 : v12=true
           ·replace hF:=AaX h15 hF;have h15_:=h15;try simp at h15_
            have F17:=A3 F16 h15 h15_;refine CT (by simp [F17] <;> omega) ?_;refine SQ [] [none,none,none] fun _ _ g r=>?_;try simp [F17]
            and_intros <;> first | exact GK g | apply r | omega | (simp [maxLen,F17] <;> omega)
            refine WK [(4,AV.ptr 2 0),(5,Iz 19)] [(2,Aaf )] 3 (by simp [F17]) (by simp [F17]) ?_;refine AW.ownC 2 1 3 true (cs:=[Iz 0,AV.lst true true (List.map AaA.av ([] : List AaA)),AV.lst true true (List.map (AV.int .i64) ([] : List Int))]) (by simp [F17]) (by simp) ?_;refine AW.ownC 2 2 1 true (cs:=[Iz 0,AV.slc 3 0 3 (([] : List AaA).length) false,AV.lst true true (List.map (AV.int .i64) ([] : List Int))]) (by simp [F17]) (by simp) ?_;refine RM h0 [(0,3),(1,4),(2,2)] [(4,AV.ptr 2 0),(5,Iz 19)] [(0,.grow (AaL (List.map AaA.av ([] : List AaA)))),(1,Gi ([] : List Int)),(2,AbJ )] 3 (by simp [F17]) (by simp [F17]) ?_;simp only [Option.some.injEq,Prod.mk.injEq] at hF;obtain ⟨e0,e1,e2,e3⟩:=hF;subst e0 e1 e2 e3;refine AW.ret (hQ _ _ _ ?_ (AaF ?_)).1
            ·simp [Try.f35,F17]
            ·simp [F17]
           ·replace hF:=AaY h15 hF;have h15_:=h15;try simp at h15_
            have F18:=A3 F16 h15 h15_;refine CF (by simp [F18] <;> omega) ?_;refine SQ [] [none,none,none,none,none] fun _ _ g r=>?_;try simp [F18]
            and_intros <;> first | exact GK g | apply r | omega | (simp [maxLen,F18] <;> omega)
            refine WK [(2,AV.ptr 0 0),(3,AV.ptr 1 0),(4,AV.ptr 2 0),(6,Iz v11),(80,AV.bool ((v1.length : Int)==500))] [(0,.cells [Iz v0,Q2 v1,Lz v2]),(1,.cells [Iz v3,Iz v4,Iz v5]),(2,Aaf )] 3 (by simp [F18]) (by simp [F18]) ?_;by_cases h16 : (v1.length : Int)=500
            ·replace hF:=AaX h16 hF;have h16q : (v1.length : Int)=500:=h16;have h16_:=Abx h16q;have h16__:=Abw h16q;have F19:=A4 F18 h16_ h16__ h16q;refine CT (by simp [F19] <;> omega) ?_;refine SQ [] [none,none,none] fun _ _ g r=>?_;try simp [F19]
             and_intros <;> first | exact GK g | apply r | omega | (simp [maxLen,F19] <;> omega)
             refine WK [(4,AV.ptr 2 0),(5,Iz 3)] [(2,Aaf )] 3 (by simp [F19]) (by simp [F19]) ?_;refine AW.ownC 2 1 3 true (cs:=[Iz 0,AV.lst true true (List.map AaA.av ([] : List AaA)),AV.lst true true (List.map (AV.int .i64) ([] : List Int))]) (by simp [F19]) (by simp) ?_;refine AW.ownC 2 2 1 true (cs:=[Iz 0,AV.slc 3 0 3 (([] : List AaA).length) false,AV.lst true true (List.map (AV.int .i64) ([] : List Int))]) (by simp [F19]) (by simp) ?_;refine RM h0 [(0,3),(1,4),(2,2)] [(4,AV.ptr 2 0),(5,Iz 3)] [(0,.grow (AaL (List.map AaA.av ([] : List AaA)))),(1,Gi ([] : List Int)),(2,AbJ )] 3 (by simp [F19]) (by simp [F19]) ?_;simp only [Option.some.injEq,Prod.mk.injEq] at hF;obtain ⟨e0,e1,e2,e3⟩:=hF;subst e0 e1 e2 e3;refine AW.ret (hQ _ _ _ ?_ (AaF ?_)).1
             ·simp [Try.f35,F19]
             ·simp [F19]
            ·replace hF:=AaY h16 hF;have h16_:=Abo h16;have h16__:=Abt h16;have F20:=A4 F18 h16 h16_ h16__;refine CF (by simp [F20] <;> omega) ?_;refine AW.skip ?_;refine hK64 _ _ _ ?_;refine SQ [] [none,none,none,none] fun _ _ g r=>?_;try simp [F20]
             and_intros
             try any_goals first | omega | (simp [maxLen,F20] <;> omega)
             obtain ⟨v15,v16,v17,h17,hF⟩:=Ad3 hF;refine AC (Ag6 k _ _ _ _ _ _ h17) (.cons (.same (by simp [F20])) .nil) ?_;try simp [F20]
             and_intros <;> first | exact GK g | apply r | omega | (simp [maxLen,F20] <;> omega)
             refine WK [(2,AV.ptr 0 0),(3,AV.ptr 1 0),(4,AV.ptr 2 0),(6,Iz v11),(8,AV.ptr 5 0)] [(0,.cells [Iz v0,Q2 v1,Lz v2]),(1,.cells [Iz v3,Iz v4,Iz v5]),(2,Aaf ),(3,.grow (AaL (List.map AaA.av v16))),(4,Gi v17),(5,.cells [Iz v15,AV.slc 3 0 3 v16.length false,AV.slc 4 0 1 v17.length false])] 6 (by simp [F20]) (by simp [F20]) ?_;refine SQ [92] [none,none,none,none,none,none,none,none,none,none,none,none,none,none,none] fun _ _ g r=>?_;obtain ⟨⟨h18,h19⟩,hF⟩:=AaZ hF;have h18_:=h18;try simp at h18_
             have h19_:=h19;try simp at h19_
             obtain ⟨h20,hF⟩:=AaZ hF;have h20_:=h20;try simp at h20_
             obtain ⟨h21,hF⟩:=AaZ hF;have h21_:=h21;try simp at h21_
             obtain ⟨⟨h22,h23⟩,hF⟩:=AaZ hF;have h22_:=h22;try simp at h22_
             have h23_:=h23;try simp at h23_
             obtain ⟨h24,hF⟩:=AaZ hF;have h24_:=h24;try simp at h24_
             have F21:=A9 F20 h18 h19 h18_ h19_ h20 h21 h22 (A4 h23 h22_ h23_ h24);try simp [F21]
             and_intros <;> first | exact GK g | apply r | omega | (simp [maxLen,F21] <;> omega)
             refine WK [(4,AV.ptr 2 0),(8,AV.ptr 5 0)] [(2,Aaf ),(4,Gi v17),(5,.cells [Iz v15,AV.slc 8 0 3 ((((v1.take (v11).toNat)++([(AaA.mk v3 v4 v5)] : List AaA))++(v1.drop (v11).toNat)).length) false,AV.slc 4 0 1 v17.length false]),(8,.grow (AaL (List.map AaA.av (((v1.take (v11).toNat)++([(AaA.mk v3 v4 v5)] : List AaA))++(v1.drop (v11).toNat)))))] 9 (by simp [F21]) (by simp [F21] <;> omega) ?_;refine SQ [] [none,none,none] fun _ _ g r=>?_;try simp [F21]
             and_intros <;> first | exact GK g | apply r | omega | (simp [maxLen,F21] <;> omega)
             refine RM h0 [(0,8),(1,4),(2,2)] [(4,AV.ptr 2 0),(5,Iz 0)] [(0,.grow (AaL (List.map AaA.av (((v1.take (v11).toNat)++([(AaA.mk v3 v4 v5)] : List AaA))++(v1.drop (v11).toNat))))),(1,Gi v17),(2,.cells [Iz v15,AV.slc 0 0 3 ((((v1.take (v11).toNat)++([(AaA.mk v3 v4 v5)] : List AaA))++(v1.drop (v11).toNat)).length) false,AV.slc 1 0 1 v17.length false])] 3 (by simp [F21]) (by simp [F21] <;> omega) ?_;simp only [Option.some.injEq,Prod.mk.injEq] at hF;obtain ⟨e0,e1,e2,e3⟩:=hF;subst e0 e1 e2 e3;refine AW.ret (hQ _ _ _ ?_ (AaF ?_)).1
             ·simp [Try.f35,F21]
             ·simp [F21]
abbrev AbI  : Aas := .cells [Iz 0,AV.slc 2 0 3 (([] : List AaA).length) false,AV.slc 3 0 1 (([] : List Int).length) false]
abbrev AbL  : Aas := .cells [Iz 0,AV.lst true true (List.map AaA.av ([] : List AaA)),AV.lst true true (List.map (AV.int .i64) ([] : List Int))]
theorem AfG (k : Nat) (v0 : (List Int)) (v1 : Int) (v2 : Int) (v3 : (List AaA)) (v4 : (List Int)) (v5 : Int) (hF : AaT k v0 v1=some (v2,v3,v4,v5)) :
 Aa9 Try.prog 12 [AV.ptr 0 0] [.cells [AV.lst false false (List.map (AV.int .i64) v0),AV.int .i64 v1]] (AV.agg [AV.int .i64 v2,AV.slc 1 0 3 v3.length false,AV.slc 2 0 1 v4.length false]) [some (.cells [AV.lst false false (List.map (AV.int .i64) v0),AV.int .i64 v5]),some (.grow (AaL (List.map AaA.av v3))),some (Gi v4)]:=by
 unfold AaT at hF;refine EN Try.func12 ?_;intro c0 w0 Q h0 hQ
 refine WK [(0,AV.ptr 0 0)] [(0,.cells [Lz v0,Iz v1])] 1 (by simp) (by simp) ?_;refine SQ [] [none] fun _ _ g r=>?_;try simp
 and_intros <;> first | exact GK g | apply r | omega | (simp [maxLen] <;> omega)
 refine WK [(0,AV.ptr 0 0),(2,AV.ptr 1 0)] [(0,.cells [Lz v0,Iz v1]),(1,AbL )] 2 (by simp) (by simp) ?_;refine SQ [] [none,none,none,none,none,none] fun _ _ g r=>?_;try simp
 and_intros
 try any_goals first | omega | (simp [maxLen] <;> omega)
 obtain ⟨v6,v7,h1,hF⟩:=Aa8 hF;refine Aa1 (Aa4 k _ _ _ _ _ h1) (by simp) [0] [] [0] rfl (.cons (.same (by simp)) (.cons (.same (by simp)) .nil)) (by simp) (by decide) (by simp) (by simp) (.inl rfl) (by simp) (by simp) ?_;try simp
 and_intros <;> first | exact GK g | apply r | omega | (simp [maxLen] <;> omega)
 refine WK [(0,AV.ptr 0 0),(2,AV.ptr 1 0),(3,AV.ptr 2 0)] [(0,.cells [Lz v0,Iz v7]),(1,AbL ),(2,.cells [Iz (IntKind.wrap .i64 (2+v6)),AV.lst true true (List.map AaA.av ([] : List AaA)),AV.lst true true (List.map (AV.int .i64) ([] : List Int))])] 3 (by simp) (by simp) ?_;refine AW.midF (α:=Int) (fun v8=>AaT.J1 k v0 v7 v8=some (v2,v3,v4,v5)) (fun v8=>[(0,AV.ptr 0 0),(2,AV.ptr 1 0),(3,AV.ptr 2 0)]) (fun v8=>[(0,.cells [Lz v0,Iz v7]),(1,AbL ),(2,.cells [Iz v8,AV.lst true true (List.map AaA.av ([] : List AaA)),AV.lst true true (List.map (AV.int .i64) ([] : List Int))])]) 3 (fun K210 hK210=>?_) ?_
 ·refine SQ [] [none,none,none,none,none,none] fun _ _ g r=>?_;try simp
  and_intros <;> first | exact GK g | apply r | omega | (simp [maxLen] <;> omega)
  refine WK [(0,AV.ptr 0 0),(2,AV.ptr 1 0),(3,AV.ptr 2 0),(16,AV.bool ((v0.length : Int)==0))] [(0,.cells [Lz v0,Iz v7]),(1,AbL ),(2,.cells [Iz (IntKind.wrap .i64 (2+v6)),AV.lst true true (List.map AaA.av ([] : List AaA)),AV.lst true true (List.map (AV.int .i64) ([] : List Int))])] 3 (by simp) (by simp) ?_;by_cases h12 : (v0.length : Int)=0
  ·replace hF:=AaX h12 hF;have h12q : (v0.length : Int)=0:=h12;have h12_:=Abx h12q;have h12__:=Abw h12q;have F1:=A3 h12_ h12__ h12q;refine CT (by simp [F1] <;> omega) ?_;refine RG [] [none,none] fun _ _ g r=>?_;try simp [F1]
   and_intros <;> first | exact GK g | apply r | omega | (simp [maxLen,F1] <;> omega)
   refine hK210 _ _ _ ?_;exact JN (4) hF (by simp [F1]) (by simp [F1])
  ·replace hF:=AaY h12 hF;have h12_:=Abo h12;have h12__:=Abt h12;have F2:=A3 h12 h12_ h12__;refine CF (by simp [F2] <;> omega) ?_;refine AW.skip ?_;refine hK210 _ _ _ ?_;exact JN (IntKind.wrap .i64 (2+v6)) hF (by simp [F2]) (by simp [F2])
 ·rintro v8 hF
  try dsimp only at hF
  unfold AaT.J1 at hF;refine AW.midF (α:=(Int×(List Int))) (fun (v9,v10)=>AaT.J2 k v0 v8 v9 v10=some (v2,v3,v4,v5)) (fun (v9,v10)=>[(0,AV.ptr 0 0),(2,AV.ptr 1 0),(3,AV.ptr 2 0)]) (fun (v9,v10)=>[(0,.cells [Lz v0,Iz v9]),(1,AbL ),(2,.cells [Iz v8,AV.lst true true (List.map AaA.av ([] : List AaA)),AV.slc 3 0 1 v10.length false]),(3,Gi v10)]) 4 (fun K207 hK207=>?_) ?_
  ·refine SQ [] [none,none] fun _ _ g r=>?_;try simp
   and_intros
   try any_goals first | omega | (simp [maxLen] <;> omega)
   obtain ⟨v32,v33,h9,hF⟩:=Aa8 hF;refine Aa1 (AeS k _ _ _ _ _ h9) (by simp) [0] [] [0] rfl (.cons (.same (by simp)) (.cons (.same (by simp)) .nil)) (by simp) (by decide) (by simp) (by simp) (.inl rfl) (by simp) (by simp) ?_;try simp
   and_intros <;> first | exact GK g | apply r | omega | (simp [maxLen] <;> omega)
   refine WK [(0,AV.ptr 0 0),(2,AV.ptr 1 0),(3,AV.ptr 2 0),(19,AV.bool v32)] [(0,.cells [Lz v0,Iz v33]),(1,AbL ),(2,.cells [Iz v8,AV.lst true true (List.map AaA.av ([] : List AaA)),AV.lst true true (List.map (AV.int .i64) ([] : List Int))])] 3 (by simp) (by simp) ?_;by_cases h10 : v32=true
   ·replace hF:=AaX h10 hF;have h10_:=h10;try simp at h10_
    refine CT (by simp [h10,h10_] <;> omega) ?_;refine RG [24] [none,none,none,none,none,none,none] fun _ _ g r=>?_;try simp [h10,h10_]
    and_intros
    try any_goals first | omega | (simp [h10,h10_,maxLen] <;> omega)
    obtain ⟨v34,v35,h11,hF⟩:=Aa8 hF;refine Aa1 (Aa4 k _ _ _ _ _ h11) (by simp) [0] [] [0] rfl (.cons (.same (by simp [h10,h10_])) (.cons (.same (by simp [h10,h10_])) .nil)) (by simp [h10,h10_]) (by decide) (by simp) (by simp) (.inl rfl) (by simp) (by simp) ?_;try simp [h10,h10_]
    and_intros <;> first | exact GK g | apply r | omega | (simp [h10,h10_,maxLen] <;> omega)
    refine hK207 _ _ _ ?_;refine Can.weak [(0,AV.ptr 0 0),(2,AV.ptr 1 0),(3,AV.ptr 2 0)] [(0,.cells [Lz v0,Iz v35]),(1,AbL ),(2,.cells [Iz v8,AV.lst true true (List.map AaA.av ([] : List AaA)),AV.slc 3 0 1 (([v34] : List Int).length) true]),(3,Ci ([v34] : List Int))] 4 (by simp [h10,h10_]) (by simp [h10,h10_]) (by simp) ?_;refine Can.flg [] [(2,.cells [Iz v8,AV.lst true true (List.map AaA.av ([] : List AaA)),AV.slc 3 0 1 (([v34] : List Int).length) false]),(3,Gi ([v34] : List Int))] trivial ⟨⟨Aas.cells [Iz v8,AV.lst true true (List.map AaA.av ([] : List AaA)),AV.slc 3 0 1 (([v34] : List Int).length) true],by simp [h10,h10_],(.mk (.cons (.same _) (.cons (.same _) (.cons .slc .nil))))⟩,⟨Ci ([v34] : List Int),by simp [h10,h10_],(.gr (by simp [h10,h10_]))⟩,trivial⟩ (by simp) ?_;exact JN ((v35,([v34] : List Int))) hF (by simp [h10,h10_]) (by simp [h10,h10_])
   ·replace hF:=AaY h10 hF;have h10_:=h10;try simp at h10_
    refine CF (by simp [h10,h10_] <;> omega) ?_;refine AW.skip ?_;refine hK207 _ _ _ ?_;refine Can.ownC 2 2 1 true (cs:=[Iz v8,AV.lst true true (List.map AaA.av ([] : List AaA)),AV.lst true true (List.map (AV.int .i64) ([] : List Int))]) (by simp [h10,h10_]) (by simp) ?_;exact JN ((v33,([] : List Int))) hF (by simp [h10,h10_]) (by simp [h10,h10_])
  ·rintro ⟨v9,v10⟩ hF
   try dsimp only at hF
   unfold AaT.J2 at hF;refine AW.seq fun K159 hK159=>?_;refine SQ [] [none,none,none] fun _ _ g r=>?_;try simp
   and_intros
   try any_goals first | omega | (simp [maxLen] <;> omega)
   obtain ⟨v11,v12,h2,hF⟩:=Aa8 hF;refine Aa1 (Aa4 k _ _ _ _ _ h2) (by simp) [0] [] [0] rfl (.cons (.same (by simp)) (.cons (.same (by simp)) .nil)) (by simp) (by decide) (by simp) (by simp) (.inl rfl) (by simp) (by simp) ?_;try simp
   and_intros <;> first | exact GK g | apply r | omega | (simp [maxLen] <;> omega)
   refine WK [(0,AV.ptr 0 0),(2,AV.ptr 1 0),(3,AV.ptr 2 0),(4,Iz v11)] [(0,.cells [Lz v0,Iz v12]),(1,AbL ),(2,.cells [Iz v8,AV.lst true true (List.map AaA.av ([] : List AaA)),AV.slc 3 0 1 v10.length false]),(3,Gi v10)] 4 (by simp) (by simp) ?_;refine AW.block ?_;refine AW.ownC 1 1 3 true (cs:=[Iz 0,AV.lst true true (List.map AaA.av ([] : List AaA)),AV.lst true true (List.map (AV.int .i64) ([] : List Int))]) (by simp) (by simp) ?_;refine AW.ownC 1 2 1 true (cs:=[Iz 0,AV.slc 4 0 3 (([] : List AaA).length) false,AV.lst true true (List.map (AV.int .i64) ([] : List Int))]) (by simp) (by simp) ?_;refine AW.ownC 2 1 3 true (cs:=[Iz v8,AV.lst true true (List.map AaA.av ([] : List AaA)),AV.slc 3 0 1 v10.length false]) (by simp) (by simp) ?_;refine AW.rnm (m:=1) h0 [(0,0),(1,1),(2,4),(3,5),(4,2),(5,6),(6,3)] [(0,AV.ptr 0 0),(2,AV.ptr 1 0),(3,AV.ptr 4 0),(4,Iz v11)] [(0,.cells [Lz v0,Iz v12]),(1,AbI ),(2,.grow (AaL (List.map AaA.av ([] : List AaA)))),(3,Gi ([] : List Int)),(4,.cells [Iz v8,AV.slc 5 0 3 (([] : List AaA).length) false,AV.slc 6 0 1 v10.length false]),(5,.grow (AaL (List.map AaA.av ([] : List AaA)))),(6,Gi v10)] 7 (by decide) (by decide) (by decide) rfl (by simp) (by simp) ?_;refine AW.loopF (α:=(Int×Int×Int×(List AaA)×(List Int))) (fun n (v13,v14,v15,v16,v17)=>AaT.L3 k v0 n v13 v14 v15 v16 v17=some (v2,v3,v4,v5)) (fun (v13,v14,v15,v16,v17)=>[(0,AV.ptr 0 0),(2,AV.ptr 1 0),(3,AV.ptr 4 0),(4,Iz v13)]) (fun (v13,v14,v15,v16,v17)=>[(0,.cells [Lz v0,Iz v14]),(1,AbI ),(2,.grow (AaL (List.map AaA.av ([] : List AaA)))),(3,Gi ([] : List Int)),(4,.cells [Iz v15,AV.slc 5 0 3 v16.length false,AV.slc 6 0 1 v17.length false]),(5,.grow (AaL (List.map AaA.av v16))),(6,Gi v17)]) 7 k ((v11,v12,v8,([] : List AaA),v10)) hF (by simp) (by simp) (by simp) ?_;rintro (_|n3) ⟨v13,v14,v15,v16,v17⟩ hF K194 hK194
   ·try dsimp only at hF
    rw [AaT.L3] at hF; cases hF
   try dsimp only at hF
   rw [AaT.L3] at hF;refine AW.seq fun K196 hK196=>?_;refine SQ [] [none,none] fun _ _ g r=>?_;try simp
   and_intros <;> first | exact GK g | apply r | omega | (simp [maxLen] <;> omega)
   refine WK [(0,AV.ptr 0 0),(2,AV.ptr 1 0),(3,AV.ptr 4 0),(4,Iz v13),(29,AV.bool (decide (0<v13)))] [(0,.cells [Lz v0,Iz v14]),(1,AbI ),(2,.grow (AaL (List.map AaA.av ([] : List AaA)))),(3,Gi ([] : List Int)),(4,.cells [Iz v15,AV.slc 5 0 3 v16.length false,AV.slc 6 0 1 v17.length false]),(5,.grow (AaL (List.map AaA.av v16))),(6,Gi v17)] 7 (by simp) (by simp) ?_;by_cases h3 : 0<v13
   ·replace hF:=AaX h3 hF;have h3_:=h3;try simp at h3_
    refine CT (by simp [h3,h3_] <;> omega) ?_;refine AW.skip ?_;refine hK196 _ _ _ ?_;refine AW.midF (α:=(Int×Int×(List AaA)×(List Int))) (fun (v18,v19,v20,v21)=>AaT.J4 k v13 (fun v13_ v14_ v15_ v16_ v17_=>AaT.L3 k v0 n3 v13_ v14_ v15_ v16_ v17_) v18 v19 v20 v21=some (v2,v3,v4,v5)) (fun (v18,v19,v20,v21)=>[(0,AV.ptr 0 0),(2,AV.ptr 1 0),(3,AV.ptr 4 0),(4,Iz v13)]) (fun (v18,v19,v20,v21)=>[(0,.cells [Lz v0,Iz v18]),(1,AbI ),(2,.grow (AaL (List.map AaA.av ([] : List AaA)))),(3,Gi ([] : List Int)),(4,.cells [Iz v19,AV.slc 5 0 3 v20.length false,AV.slc 6 0 1 v21.length false]),(5,.grow (AaL (List.map AaA.av v20))),(6,Gi v21)]) 7 (fun K202 hK202=>?_) ?_
    ·refine AW.block ?_;refine SQ [] [none,none,none,none,none,none,none,none,none,none,none,none,none,none,none,none,none,none,none,none] fun _ _ g r=>?_;try simp [h3,h3_]
     and_intros
     try any_goals first | omega | (simp [h3,h3_,maxLen] <;> omega)
     obtain ⟨v22,v23,h4,hF⟩:=Aa8 hF;refine Aa1 (Aa4 k _ _ _ _ _ h4) (by simp) [0] [] [0] rfl (.cons (.same (by simp [h3,h3_])) (.cons (.same (by simp [h3,h3_])) .nil)) (by simp [h3,h3_]) (by decide) (by simp) (by simp) (.inl rfl) (by simp) (by simp) ?_;try simp [h3,h3_]
     and_intros
     try any_goals first | omega | (simp [h3,h3_,maxLen] <;> omega)
     obtain ⟨v24,v25,h5,hF⟩:=Aa8 hF;refine Aa1 (Aa4 k _ _ _ _ _ h5) (by simp) [0] [] [0] rfl (.cons (.same (by simp [h3,h3_])) (.cons (.same (by simp [h3,h3_])) .nil)) (by simp [h3,h3_]) (by decide) (by simp) (by simp) (.inl rfl) (by simp) (by simp) ?_;try simp [h3,h3_]
     and_intros
     try any_goals first | omega | (simp [h3,h3_,maxLen] <;> omega)
     obtain ⟨v26,v27,h6,hF⟩:=Aa8 hF;refine Aa1 (Aa4 k _ _ _ _ _ h6) (by simp) [0] [] [0] rfl (.cons (.same (by simp [h3,h3_])) (.cons (.same (by simp [h3,h3_])) .nil)) (by simp [h3,h3_]) (by decide) (by simp) (by simp) (.inl rfl) (by simp) (by simp) ?_;try simp [h3,h3_]
     and_intros
     try any_goals first | omega | (simp [h3,h3_,maxLen] <;> omega)
     obtain ⟨v28,v29,v30,v31,h7,hF⟩:=Ag1 hF;refine Aa1 (Ag5 k _ _ _ _ _ _ _ _ _ _ h7) (by simp) [] [5,6] [] rfl (.cons (.agg (.cons (.same (by simp [h3,h3_])) (.cons (Coe.l (o := .grow (AaL (List.map AaA.av v16))) (by simp [h3,h3_]) rfl (by simp [h3,h3_]) (by simp [AdK]) (by simp [h3,h3_]) (by simp [h3,h3_])) (.cons (Coe.l (o:=Gi v17) (by simp [h3,h3_]) rfl (by simp [h3,h3_]) (by simp [AdK]) (by simp [h3,h3_]) (by simp [h3,h3_])) .nil)))) (.cons (.same (by simp [h3,h3_])) .nil)) (by simp [h3,h3_]) (by decide) (by simp) (by simp) (.inr ⟨by simp,by simp⟩) (by simp) (by simp) ?_;try simp [h3,h3_]
     and_intros <;> first | exact GK g | apply r | omega | (simp [h3,h3_,maxLen] <;> omega)
     refine WK [(0,AV.ptr 0 0),(2,AV.ptr 1 0),(3,AV.ptr 4 0),(4,Iz v13),(5,AV.ptr 9 0),(6,Iz v31)] [(0,.cells [Lz v0,Iz v27]),(1,AbI ),(2,.grow (AaL (List.map AaA.av ([] : List AaA)))),(3,Gi ([] : List Int)),(4,.cells [Iz v15,AV.slc 5 0 3 v16.length false,AV.slc 6 0 1 v17.length false]),(5,.grow (AaL (List.map AaA.av v16))),(6,Gi v17),(7,.grow (AaL (List.map AaA.av v29))),(8,Gi v30),(9,.cells [Iz v28,AV.slc 7 0 3 v29.length false,AV.slc 8 0 1 v30.length false])] 10 (by simp [h3,h3_]) (by simp [h3,h3_]) ?_;refine SQ [] [none,none] fun _ _ g r=>?_;try simp [h3,h3_]
     and_intros <;> first | exact GK g | apply r | omega | (simp [h3,h3_,maxLen] <;> omega)
     refine WK [(0,AV.ptr 0 0),(2,AV.ptr 1 0),(3,AV.ptr 4 0),(4,Iz v13),(5,AV.ptr 9 0),(50,AV.bool (v31==0))] [(0,.cells [Lz v0,Iz v27]),(1,AbI ),(2,.grow (AaL (List.map AaA.av ([] : List AaA)))),(3,Gi ([] : List Int)),(4,.cells [Iz v15,AV.slc 5 0 3 v16.length false,AV.slc 6 0 1 v17.length false]),(5,.grow (AaL (List.map AaA.av v16))),(6,Gi v17),(7,.grow (AaL (List.map AaA.av v29))),(8,Gi v30),(9,.cells [Iz v28,AV.slc 7 0 3 v29.length false,AV.slc 8 0 1 v30.length false])] 10 (by simp [h3,h3_]) (by simp [h3,h3_]) ?_;by_cases h8 : v31=0
     ·replace hF:=AaX h8 hF;have h8q : v31=0:=h8;have h8_:=Abx h8q;have h8__:=Abw h8q;have F3:=A5 h3 h3_ h8_ h8__ h8q;refine CT (by simp [F3] <;> omega) ?_;refine RG [] [none,none] fun _ _ g r=>?_;try simp [F3]
      and_intros <;> first | exact GK g | apply r | omega | (simp [maxLen,F3] <;> omega)
      refine hK202 _ _ _ ?_;refine Can.weak [(0,AV.ptr 0 0),(2,AV.ptr 1 0),(3,AV.ptr 4 0),(4,Iz v13)] [(0,.cells [Lz v0,Iz v27]),(1,AbI ),(2,.grow (AaL (List.map AaA.av ([] : List AaA)))),(3,Gi ([] : List Int)),(4,.cells [Iz v28,AV.slc 7 0 3 v29.length false,AV.slc 8 0 1 v30.length false]),(7,.grow (AaL (List.map AaA.av v29))),(8,Gi v30)] 10 (by simp [F3]) (by simp [F3]) (by simp) ?_;refine Can.ren (m:=1) h0 [(0,0),(1,1),(2,2),(3,3),(4,4),(5,7),(6,8)] [(0,AV.ptr 0 0),(2,AV.ptr 1 0),(3,AV.ptr 4 0),(4,Iz v13)] [(0,.cells [Lz v0,Iz v27]),(1,AbI ),(2,.grow (AaL (List.map AaA.av ([] : List AaA)))),(3,Gi ([] : List Int)),(4,.cells [Iz v28,AV.slc 5 0 3 v29.length false,AV.slc 6 0 1 v30.length false]),(5,.grow (AaL (List.map AaA.av v29))),(6,Gi v30)] 7 (by decide) (by decide) (by decide) rfl (by simp [F3]) (by simp [F3]) ?_;exact JN ((v27,v28,v29,v30)) hF (by simp [F3]) (by simp [F3])
     ·replace hF:=AaY h8 hF;have h8_:=Abo h8;have h8__:=Abt h8;have F4:=A5 h3 h3_ h8 h8_ h8__;refine CF (by simp [F4] <;> omega) ?_;refine AW.skip ?_;refine hK202 _ _ _ ?_;refine Can.ren (m:=1) h0 [(0,0),(1,1),(2,2),(3,3),(4,4),(5,5),(6,6)] [(0,AV.ptr 0 0),(2,AV.ptr 1 0),(3,AV.ptr 4 0),(4,Iz v13)] [(0,.cells [Lz v0,Iz v27]),(1,AbI ),(2,.grow (AaL (List.map AaA.av ([] : List AaA)))),(3,Gi ([] : List Int)),(4,.cells [Iz v15,AV.slc 5 0 3 v16.length false,AV.slc 6 0 1 v17.length false]),(5,.grow (AaL (List.map AaA.av v16))),(6,Gi v17)] 7 (by decide) (by decide) (by decide) rfl (by simp [F4]) (by simp [F4]) ?_;exact JN ((v27,v15,v16,v17)) hF (by simp [F4]) (by simp [F4])
    ·rintro ⟨v18,v19,v20,v21⟩ hF
     try dsimp only at hF
     unfold AaT.J4 at hF;refine RG [] [none,none,none] fun _ _ g r=>?_;try simp [h3,h3_]
     and_intros <;> first | exact GK g | apply r | omega | (simp [h3,h3_,maxLen] <;> omega)
     refine hK194 _ _ _ ?_;exact NX (k':=n3) ((IntKind.wrap .i64 (v13-1),v18,v19,v20,v21)) hF (by simp [h3,h3_]) (by simp [h3,h3_])
   ·replace hF:=AaY h3 hF;have h3_:=h3;try simp at h3_
    refine CF (by simp [h3,h3_] <;> omega) ?_;refine AW.exit ?_;try simp
    refine hK159 _ _ _ ?_;refine SQ [] [none,none] fun _ _ g r=>?_;try simp [h3,h3_]
    and_intros <;> first | exact GK g | apply r | omega | (simp [h3,h3_,maxLen] <;> omega)
    refine WK [(2,AV.ptr 1 0)] [(0,.cells [Lz v0,Iz v14]),(1,.cells [Iz v15,AV.slc 5 0 3 v16.length false,AV.slc 6 0 1 v17.length false]),(5,.grow (AaL (List.map AaA.av v16))),(6,Gi v17)] 7 (by simp [h3,h3_]) (by simp [h3,h3_]) ?_;refine AW.rnm (m:=1) h0 [(0,0),(1,5),(2,6),(3,1)] [(2,AV.ptr 3 0)] [(0,.cells [Lz v0,Iz v14]),(1,.grow (AaL (List.map AaA.av v16))),(2,Gi v17),(3,.cells [Iz v15,AV.slc 1 0 3 v16.length false,AV.slc 2 0 1 v17.length false])] 4 (by decide) (by decide) (by decide) rfl (by simp [h3,h3_]) (by simp [h3,h3_]) ?_;simp only [Option.some.injEq,Prod.mk.injEq] at hF;obtain ⟨e0,e1,e2,e3⟩:=hF;subst e0 e1 e2 e3;refine AW.ret (hQ _ _ _ ?_ (AaF ?_)).1
    ·simp [Try.f12,h3,h3_]
    ·simp [h3,h3_]
end Go.TF
