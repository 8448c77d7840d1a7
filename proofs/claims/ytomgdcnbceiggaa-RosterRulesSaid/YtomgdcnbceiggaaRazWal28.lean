import Derived.Test.YtomgdcnbceiggaaRazWal27
set_option linter.unusedVariables false
set_option linter.unusedSimpArgs false
set_option maxRecDepth 100000
set_option maxHeartbeats 4000000
namespace Go.TF
open Go Go.Abs Go.Proofs Go.Proofs.YtomgdcnbceiggaaRaT
theorem Afk (k : Nat) (v0 : (List Int)) (v1 : Bool) (hF : Ac9 k v0=some v1) :
 Aa0 Try.prog 7 [AV.lst false false (List.map (AV.int .i64) v0)] [] (AV.bool v1) []:=by
 unfold Ac9 at hF;refine EN Try.func7 ?_;intro c0 w0 Q h0 hQ
 refine WK [(0,Lz v0)] [] 0 (by simp) (by simp) ?_;refine SQ [] [none] fun _ _ g r=>?_;try simp
 and_intros <;> first | exact GK g | apply r | omega | (simp [maxLen] <;> omega)
 refine WK [(0,Lz v0)] [] 0 (by simp) (by simp) ?_;refine SQ [] [none,none,none,none] fun _ _ g r=>?_;try simp
 and_intros <;> first | exact GK g | apply r | omega | (simp [maxLen] <;> omega)
 refine WK [(2,AV.bool (decide ((v0.length : Int)≤400)))] [] 0 (by simp) (by simp) ?_;simp only [Option.some.injEq] at hF;subst hF;refine AW.ret (hQ _ _ _ ?_ (AaB ?_)).1
 ·simp [Try.f7]
 ·simp
theorem Ad8 (k : Nat) (v0 : Int) (v1 : Bool) (hF : Ab9 k v0=some v1) :
 Aa0 Try.prog 66 [AV.int .i64 v0] [] (AV.bool v1) []:=by
 unfold Ab9 at hF;refine EN Try.func66 ?_;intro c0 w0 Q h0 hQ
 refine WK [(0,Iz v0)] [] 0 (by simp) (by simp) ?_;refine SQ [] [none] fun _ _ g r=>?_;try simp
 and_intros <;> first | exact GK g | apply r | omega | (simp [maxLen] <;> omega)
 refine WK [(0,Iz v0)] [] 0 (by simp) (by simp) ?_;refine SQ [] [none,none,none,some (5,true),some (5,true),none,none] fun _ _ g r=>?_;by_cases h1 : 0≤v0
 ·replace hF:=AaF h1 hF;have h1_:=h1;try simp at h1_
  try simp [h1,h1_]
  and_intros <;> first | exact GK g | apply r | omega | (simp [h1,h1_,maxLen] <;> omega)
  refine WK [(2,AV.bool (decide (v0<64)))] [] 0 (by simp [h1,h1_]) (by simp [h1,h1_]) ?_;simp only [Option.some.injEq] at hF;subst hF;refine AW.ret (hQ _ _ _ ?_ (AaB ?_)).1
  ·simp [Try.f66,h1,h1_]
  ·simp [h1,h1_]
 ·replace hF:=AaG h1 hF;have h1_:=h1;try simp at h1_
  try simp [h1,h1_]
  and_intros <;> first | exact GK g | apply r | omega | (simp [h1,h1_,maxLen] <;> omega)
  refine WK [(2,AV.bool false)] [] 0 (by simp [h1,h1_]) (by simp [h1,h1_]) ?_;simp only [Option.some.injEq] at hF;subst hF;refine AW.ret (hQ _ _ _ ?_ (AaB ?_)).1
  ·simp [Try.f66,h1,h1_]
  ·simp [h1,h1_]
theorem AgP (k : Nat) (v0 : (List Int)) (v1 : (List Bool)) (hF : Aaj k v0=some v1) :
 Aa0 Try.prog 67 [AV.lst false false (List.map (AV.int .i64) v0)] [] (AV.agg (List.map AV.bool v1)) []:=by
 unfold Aaj at hF;refine EN Try.func67 ?_;intro c0 w0 Q h0 hQ
 refine WK [(0,Lz v0)] [] 0 (by simp) (by simp) ?_;refine SQ [] [none] fun _ _ g r=>?_;try simp
 and_intros <;> first | exact GK g | apply r | omega | (simp [maxLen] <;> omega)
 refine WK [(0,Lz v0),(2,AV.ptr 0 0)] [(0,.cells (List.map AV.bool (List.replicate 64 false)))] 1 (by simp) (by simp) ?_;refine SQ [] [none] fun _ _ g r=>?_;try simp
 and_intros <;> first | exact GK g | apply r | omega | (simp [maxLen] <;> omega)
 refine WK [(0,Lz v0),(2,AV.ptr 0 0),(3,AV.ptr 1 0)] [(0,.cells (List.map AV.bool (List.replicate 64 false))),(1,.cells (List.map AV.bool (List.replicate 64 false)))] 2 (by simp) (by simp) ?_;refine AW.seq fun K133 hK133=>?_;refine SQ [] [none,none,none] fun _ _ g r=>?_;try simp
 and_intros <;> first | exact GK g | apply r | omega | (simp [maxLen] <;> omega)
 refine WK [(2,AV.ptr 0 0),(3,AV.ptr 1 0),(6,Lz v0),(7,Iz (v0.length : Int)),(8,Iz 0)] [(0,.cells (List.map AV.bool (List.replicate 64 false))),(1,.cells (List.map AV.bool (List.replicate 64 false)))] 2 (by simp) (by simp) ?_;refine AW.block ?_;refine AW.loopF (α:=(Int×(List Bool))) (fun n (v2,v3)=>Aaj.L1 k v0 n v2 v3=some v1) (fun (v2,v3)=>[(2,AV.ptr 0 0),(3,AV.ptr 1 0),(6,Lz v0),(7,Iz (v0.length : Int)),(8,Iz v2)]) (fun (v2,v3)=>[(0,.cells (List.map AV.bool (List.replicate 64 false))),(1,.cells (List.map AV.bool v3))]) 2 k ((0,(List.replicate 64 false))) hF (by simp) (by simp) (by simp) ?_;rintro (_|n1) ⟨v2,v3⟩ hF K165 hK165
 ·try dsimp only at hF
  rw [Aaj.L1] at hF; cases hF
 try dsimp only at hF
 rw [Aaj.L1] at hF;refine SQ [] [none] fun _ _ g r=>?_;try simp
 and_intros <;> first | exact GK g | apply r | omega | (simp [maxLen] <;> omega)
 refine WK [(2,AV.ptr 0 0),(3,AV.ptr 1 0),(6,Lz v0),(7,Iz (v0.length : Int)),(8,Iz v2),(9,AV.bool (decide (v2<(v0.length : Int))))] [(0,.cells (List.map AV.bool (List.replicate 64 false))),(1,.cells (List.map AV.bool v3))] 2 (by simp) (by simp) ?_;refine AW.seq fun K167 hK167=>?_;by_cases h1 : v2<(v0.length : Int)
 ·replace hF:=AaF h1 hF;have h1_:=h1;try simp at h1_
  refine CT (by simp [h1,h1_] <;> omega) ?_;refine AW.skip ?_;refine hK167 _ _ _ ?_;refine AW.midF (α:=(List Bool)) (fun v4=>Aaj.J2 k v2 (fun v2_ v3_=>Aaj.L1 k v0 n1 v2_ v3_) v4=some v1) (fun v4=>[(2,AV.ptr 0 0),(3,AV.ptr 1 0),(6,Lz v0),(7,Iz (v0.length : Int)),(8,Iz v2)]) (fun v4=>[(0,.cells (List.map AV.bool (List.replicate 64 false))),(1,.cells (List.map AV.bool v4))]) 2 (fun K172 hK172=>?_) ?_
  ·refine AW.block ?_;refine SQ [] [none,none,none] fun _ _ g r=>?_;obtain ⟨v5,h2,h3,h4,hF⟩:=Aab hF;have h4_:=Aaw h4;try simp at h4_
   have h3_:=h3;try simp at h3_
   have F1:=A7 h1 h1_ h2 h3 h4 h4_ h3_;try simp [F1]
   and_intros <;> first | exact GK g | apply r | omega | (simp [maxLen,F1] <;> omega)
   refine WK [(2,AV.ptr 0 0),(3,AV.ptr 1 0),(5,Iz v5),(6,Lz v0),(7,Iz (v0.length : Int)),(8,Iz v2)] [(0,.cells (List.map AV.bool (List.replicate 64 false))),(1,.cells (List.map AV.bool v3))] 2 (by simp [F1]) (by simp [F1]) ?_;refine SQ [] [none,none] fun _ _ g r=>?_;try simp [F1]
   and_intros
   try any_goals first | omega | (simp [maxLen,F1] <;> omega)
   obtain ⟨v6,h5,hF⟩:=AaD hF;refine AC (Ad8 k _ _ h5) (.cons (.same (by simp [F1])) .nil) ?_;try simp [F1]
   and_intros <;> first | exact GK g | apply r | omega | (simp [maxLen,F1] <;> omega)
   refine WK [(2,AV.ptr 0 0),(3,AV.ptr 1 0),(5,Iz v5),(6,Lz v0),(7,Iz (v0.length : Int)),(8,Iz v2),(13,AV.bool v6)] [(0,.cells (List.map AV.bool (List.replicate 64 false))),(1,.cells (List.map AV.bool v3))] 2 (by simp [F1]) (by simp [F1]) ?_;by_cases h6 : v6=true
   ·replace hF:=AaF h6 hF;have h6_:=h6;try simp at h6_
    have F2:=A3 F1 h6 h6_;refine CT (by simp [F2] <;> omega) ?_;refine RG [] [none,none,none] fun _ _ g r=>?_;obtain ⟨⟨h7,h9,h8⟩,hF⟩:=AbH hF;have h8_:=Ac8 h8;have F3:=A5 F2 h7 h8 h9 h8_;try simp [F3]
    and_intros <;> first | exact GK g | apply r | omega | (simp [maxLen,F3] <;> omega)
    refine hK172 _ _ _ ?_;exact JN (v3.set (v5).toNat true) hF (by simp [F3]) (by simp [F3])
   ·replace hF:=AaG h6 hF;have h6_:=h6;try simp at h6_
    have F4:=A3 F1 h6 h6_;refine CF (by simp [F4] <;> omega) ?_;refine AW.skip ?_;refine hK172 _ _ _ ?_;exact JN (v3) hF (by simp [F4]) (by simp [F4])
  ·rintro v4 hF
   try dsimp only at hF
   unfold Aaj.J2 at hF;refine RG [] [none,none] fun _ _ g r=>?_;try simp [h1,h1_]
   and_intros <;> first | exact GK g | apply r | omega | (simp [h1,h1_,maxLen] <;> omega)
   refine hK165 _ _ _ ?_;exact NX (k':=n1) ((IntKind.wrap .i64 (v2+1),v4)) hF (by simp [h1,h1_]) (by simp [h1,h1_])
 ·replace hF:=AaG h1 hF;have h1_:=h1;try simp at h1_
  refine CF (by simp [h1,h1_] <;> omega) ?_;refine AW.exit ?_;try simp
  refine hK133 _ _ _ ?_;refine SQ [] [none,none] fun _ _ g r=>?_;obtain ⟨h10,hF⟩:=AbH hF;have h10_:=Af2 h10 (by decide);obtain ⟨h11,hF⟩:=AbH hF;have F5:=A5 h1 h1_ h10 h10_ h11;try simp [F5]
  and_intros <;> first | exact GK g | apply r | omega | (simp [maxLen,F5] <;> omega)
  refine WK [(2,AV.ptr 0 0)] [(0,.cells (List.map AV.bool v3))] 2 (by simp [F5]) (by simp [F5]) ?_;obtain ⟨h12,hF⟩:=AbH hF;have h12_:=Af2 h12 (by decide);simp only [Option.some.injEq] at hF;subst hF;refine AW.ret (hQ _ _ _ ?_ (AaB ?_)).1
  ·have F6:=A3 F5 h12 h12_;simp [Try.f67,F6]
  ·have F7:=A3 F5 h12 h12_;simp [F7]
theorem AdH (k : Nat) (v0 : (List Int)) (v1 : Bool) (hF : AaR k v0=some v1) :
 Aa0 Try.prog 35 [AV.lst false false (List.map (AV.int .i64) v0)] [] (AV.bool v1) []:=by
 unfold AaR at hF;refine EN Try.func35 ?_;intro c0 w0 Q h0 hQ
 refine WK [(0,Lz v0)] [] 0 (by simp) (by simp) ?_;refine SQ [] [none] fun _ _ g r=>?_;try simp
 and_intros <;> first | exact GK g | apply r | omega | (simp [maxLen] <;> omega)
 refine WK [(0,Lz v0)] [] 0 (by simp) (by simp) ?_;refine AW.seq fun K143 hK143=>?_;refine SQ [] [none,none,none] fun _ _ g r=>?_;try simp
 and_intros <;> first | exact GK g | apply r | omega | (simp [maxLen] <;> omega)
 refine WK [(0,Lz v0),(5,Lz v0),(6,Iz (v0.length : Int)),(7,Iz 0)] [] 0 (by simp) (by simp) ?_;refine AW.block ?_;refine AW.loopF (α:=Int) (fun n v2=>AaR.L1 k v0 n v2=some v1) (fun v2=>[(0,Lz v0),(5,Lz v0),(6,Iz (v0.length : Int)),(7,Iz v2)]) (fun v2=>[]) 0 k (0) hF (by simp) (by simp) (by simp) ?_;rintro (_|n1) v2 hF K177 hK177
 ·try dsimp only at hF
  rw [AaR.L1] at hF; cases hF
 try dsimp only at hF
 rw [AaR.L1] at hF;refine SQ [] [none] fun _ _ g r=>?_;try simp
 and_intros <;> first | exact GK g | apply r | omega | (simp [maxLen] <;> omega)
 refine WK [(0,Lz v0),(5,Lz v0),(6,Iz (v0.length : Int)),(7,Iz v2),(8,AV.bool (decide (v2<(v0.length : Int))))] [] 0 (by simp) (by simp) ?_;refine AW.seq fun K179 hK179=>?_;by_cases h1 : v2<(v0.length : Int)
 ·replace hF:=AaF h1 hF;have h1_:=h1;try simp at h1_
  refine CT (by simp [h1,h1_] <;> omega) ?_;refine AW.skip ?_;refine hK179 _ _ _ ?_;refine AW.midF (α:=Unit) (fun _=>AaR.J2 k v2 (fun v2_=>AaR.L1 k v0 n1 v2_)=some v1) (fun _=>[(0,Lz v0),(5,Lz v0),(6,Iz (v0.length : Int)),(7,Iz v2)]) (fun _=>[]) 0 (fun K185 hK185=>?_) ?_
  ·refine AW.block ?_;refine SQ [] [none,none,none,none,none] fun _ _ g r=>?_;obtain ⟨v3,h2,h3,h4,hF⟩:=Aab hF;have h4_:=Aaw h4;try simp at h4_
   have h3_:=h3;try simp at h3_
   have F1:=A7 h1 h1_ h2 h3 h4 h4_ h3_;try simp [F1]
   and_intros <;> first | exact GK g | apply r | omega | (simp [maxLen,F1] <;> omega)
   refine WK [(0,Lz v0),(3,Iz v2),(4,Iz v3),(5,Lz v0),(6,Iz (v0.length : Int)),(7,Iz v2)] [] 0 (by simp [F1]) (by simp [F1]) ?_;refine SQ [] [none,none,none,none,some (15,false),some (15,false),some (15,false),some (18,true),some (18,true),some (18,true),some (18,true),some (18,true),some (18,true),some (18,true),some (15,false),none] fun _ _ g r=>?_;try simp [F1]
   and_intros
   try any_goals first | omega | (simp [maxLen,F1] <;> omega)
   obtain ⟨v4,h5,hF⟩:=AaD hF;refine AC (Ad8 k _ _ h5) (.cons (.same (by simp [F1])) .nil) ?_;by_cases h6 : (!v4)=true
   ·replace hF:=AaF h6 hF;have h6_:=h6;try simp at h6_
    have F2:=A3 F1 h6 h6_;try simp [F2]
    and_intros <;> first | exact GK g | apply r | omega | (simp [maxLen,F2] <;> omega)
    refine WK [(0,Lz v0),(5,Lz v0),(6,Iz (v0.length : Int)),(7,Iz v2),(27,AV.bool true)] [] 0 (by simp [F2]) (by simp [F2]) ?_;refine CT (by simp [F2]) ?_;refine SQ [] [none] fun _ _ g r=>?_;try simp [F2]
    and_intros <;> first | exact GK g | apply r | omega | (simp [maxLen,F2] <;> omega)
    refine WK [(2,AV.bool false)] [] 0 (by simp [F2]) (by simp [F2]) ?_;simp only [Option.some.injEq] at hF;subst hF;refine AW.ret (hQ _ _ _ ?_ (AaB ?_)).1
    ·simp [Try.f35,F2]
    ·simp [F2]
   ·replace hF:=AaG h6 hF;have h6_:=h6;try simp at h6_
    by_cases h7 : 0<v2
    ·replace hF:=AaF h7 hF;have h7_:=h7;try simp at h7_
     obtain ⟨v5,h8,h9,h10,hF⟩:=Aab hF;have h10_:=Aaw h10;try simp at h10_
     have h9_:=h9;try simp at h9_
     have F3:=A9 F1 h6 h6_ h7 h7_ h8 h9 h10 (A2 h10_ h9_);try simp [F3]
     and_intros <;> first | exact GK g | apply r | omega | (simp [maxLen,F3] <;> omega)
     refine WK [(0,Lz v0),(5,Lz v0),(6,Iz (v0.length : Int)),(7,Iz v2),(27,AV.bool (decide (v3≤v5)))] [] 0 (by simp [F3]) (by simp [F3]) ?_;by_cases h11 : v3≤v5
     ·replace hF:=AaF h11 hF;have h11_:=h11;try simp at h11_
      have F4:=A3 F3 h11 h11_;refine CT (by simp [F4] <;> omega) ?_;refine SQ [] [none] fun _ _ g r=>?_;try simp [F4]
      and_intros <;> first | exact GK g | apply r | omega | (simp [maxLen,F4] <;> omega)
      refine WK [(2,AV.bool false)] [] 0 (by simp [F4]) (by simp [F4]) ?_;simp only [Option.some.injEq] at hF;subst hF;refine AW.ret (hQ _ _ _ ?_ (AaB ?_)).1
      ·simp [Try.f35,F4]
      ·simp [F4]
     ·replace hF:=AaG h11 hF;have h11_:=h11;try simp at h11_
      have F5:=A3 F3 h11 h11_;refine CF (by simp [F5] <;> omega) ?_;refine AW.skip ?_;refine hK185 _ _ _ ?_;exact JN (()) hF (by simp [F5]) (by simp [F5])
    ·replace hF:=AaG h7 hF;have h7_:=h7;try simp at h7_
     have F6:=A5 F1 h6 h6_ h7 h7_;try simp [F6]
     and_intros <;> first | exact GK g | apply r | omega | (simp [maxLen,F6] <;> omega)
     refine WK [(0,Lz v0),(5,Lz v0),(6,Iz (v0.length : Int)),(7,Iz v2),(27,AV.bool false)] [] 0 (by simp [F6]) (by simp [F6]) ?_;refine CF (by simp [F6]) ?_;refine AW.skip ?_;refine hK185 _ _ _ ?_;exact JN (()) hF (by simp [F6]) (by simp [F6])
  ·rintro ⟨⟩ hF
   try dsimp only at hF
   unfold AaR.J2 at hF;refine RG [] [none,none] fun _ _ g r=>?_;try simp [h1,h1_]
   and_intros <;> first | exact GK g | apply r | omega | (simp [h1,h1_,maxLen] <;> omega)
   refine hK177 _ _ _ ?_;exact NX (k':=n1) (IntKind.wrap .i64 (v2+1)) hF (by simp [h1,h1_]) (by simp [h1,h1_])
 ·replace hF:=AaG h1 hF;have h1_:=h1;try simp at h1_
  refine CF (by simp [h1,h1_] <;> omega) ?_;refine AW.exit ?_;try simp
  refine hK143 _ _ _ ?_;refine SQ [] [none,none,none,none,none] fun _ _ g r=>?_;try simp [h1,h1_]
  and_intros
  try any_goals first | omega | (simp [h1,h1_,maxLen] <;> omega)
  obtain ⟨v6,h12,hF⟩:=AaD hF;refine AC (AgP k _ _ h12) (.cons (.same (by simp [h1,h1_])) .nil) ?_;obtain ⟨h13,hF⟩:=AbH hF;have F7:=A3 h1 h1_ h13;try simp [F7]
  and_intros <;> first | exact GK g | apply r | omega | (simp [maxLen,F7] <;> omega)
  refine WK [(2,AV.bool (v6 !=(List.replicate 64 false)))] [] 0 (by simp [F7]) (by simp [F7]) ?_;simp only [Option.some.injEq] at hF;subst hF;refine AW.ret (hQ _ _ _ ?_ (AaB ?_)).1
  ·simp [Try.f35,F7]
  ·simp [F7]
theorem AeP (k : Nat) (v0 : (List Int)) (v1 : (List Int)) (v2 : Int) (hF : Aaf k v0=some (v1,v2)) :
 Aa0 Try.prog 32 [AV.lst false false (List.map (AV.int .i64) v0)] [] (AV.tup [AV.lst false false (List.map (AV.int .i64) v1),AV.int .i64 v2]) []:=by
 unfold Aaf at hF;refine EN Try.func32 ?_;intro c0 w0 Q h0 hQ
 refine WK [(0,Lz v0)] [] 0 (by simp) (by simp) ?_;refine SQ [] [none,none] fun _ _ g r=>?_;try simp
 and_intros <;> first | exact GK g | apply r | omega | (simp [maxLen] <;> omega)
 refine WK [(0,Lz v0)] [] 0 (by simp) (by simp) ?_;refine AW.seq fun K81 hK81=>?_;refine SQ [] [none,none,none] fun _ _ g r=>?_;try simp
 and_intros
 try any_goals first | omega | (simp [maxLen] <;> omega)
 obtain ⟨v3,h1,hF⟩:=AaD hF;refine AC (AdH k _ _ h1) (.cons (.same (by simp)) .nil) ?_;try simp
 and_intros <;> first | exact GK g | apply r | omega | (simp [maxLen] <;> omega)
 refine WK [(0,Lz v0),(9,AV.bool (!v3))] [] 0 (by simp) (by simp) ?_;by_cases h2 : (!v3)=true
 ·replace hF:=AaF h2 hF;have h2_:=h2;try simp at h2_
  refine CT (by simp [h2,h2_] <;> omega) ?_;refine SQ [] [none,none] fun _ _ g r=>?_;try simp [h2,h2_]
  and_intros <;> first | exact GK g | apply r | omega | (simp [h2,h2_,maxLen] <;> omega)
  refine WK [(2,AV.lst true true (List.map (AV.int .i64) ([] : List Int))),(3,Iz 43)] [] 0 (by simp [h2,h2_]) (by simp [h2,h2_]) ?_;refine AW.flg [(2,Lz ([] : List Int))] [] ⟨(.lst (by simp)),trivial⟩ trivial (by simp) ?_;simp only [Option.some.injEq,Prod.mk.injEq] at hF;obtain ⟨e0,e1⟩:=hF;subst e0 e1;refine AW.ret (hQ _ _ _ ?_ (AaB ?_)).1
  ·simp [Try.f32,h2,h2_]
  ·simp [h2,h2_]
 ·replace hF:=AaG h2 hF;have h2_:=h2;try simp at h2_
  refine CF (by simp [h2,h2_] <;> omega) ?_;refine AW.skip ?_;refine hK81 _ _ _ ?_;refine SQ [10] [none,none] fun _ _ g r=>?_;try simp [h2,h2_]
  and_intros <;> first | exact GK g | apply r | omega | (simp [h2,h2_,maxLen] <;> omega)
  refine WK [(0,Lz v0),(4,AV.slc 0 0 1 (([0,0] : List Int).length) true)] [(0,Ci ([0,0] : List Int))] 1 (by simp [h2,h2_]) (by simp [h2,h2_]) ?_;refine AW.seq fun K119 hK119=>?_;refine SQ [] [none,none,none] fun _ _ g r=>?_;try simp [h2,h2_]
  and_intros <;> first | exact GK g | apply r | omega | (simp [h2,h2_,maxLen] <;> omega)
  refine WK [(4,AV.slc 0 0 1 (([0,0] : List Int).length) true),(11,Lz v0),(12,Iz (v0.length : Int)),(13,Iz 0)] [(0,Ci ([0,0] : List Int))] 1 (by simp [h2,h2_]) (by simp [h2,h2_]) ?_;refine AW.block ?_;refine AW.loopF (α:=(Int×(List Int))) (fun n (v4,v5)=>Aaf.L1 k v0 n v4 v5=some (v1,v2)) (fun (v4,v5)=>[(4,AV.slc 0 0 1 v5.length true),(11,Lz v0),(12,Iz (v0.length : Int)),(13,Iz v4)]) (fun (v4,v5)=>[(0,Ci v5)]) 1 k ((0,([0,0] : List Int))) hF (by simp [h2,h2_]) (by simp [h2,h2_]) (by simp) ?_;rintro (_|n1) ⟨v4,v5⟩ hF K145 hK145
  ·try dsimp only at hF
   rw [Aaf.L1] at hF; cases hF
  try dsimp only at hF
  rw [Aaf.L1] at hF;refine SQ [] [none] fun _ _ g r=>?_;try simp [h2,h2_]
  and_intros <;> first | exact GK g | apply r | omega | (simp [h2,h2_,maxLen] <;> omega)
  refine WK [(4,AV.slc 0 0 1 v5.length true),(11,Lz v0),(12,Iz (v0.length : Int)),(13,Iz v4),(14,AV.bool (decide (v4<(v0.length : Int))))] [(0,Ci v5)] 1 (by simp [h2,h2_]) (by simp [h2,h2_]) ?_;refine AW.seq fun K147 hK147=>?_;by_cases h3 : v4<(v0.length : Int)
  ·replace hF:=AaF h3 hF;have h3_:=h3;try simp at h3_
   have F1:=A4 h2 h2_ h3 h3_;refine CT (by simp [F1] <;> omega) ?_;refine AW.skip ?_;refine hK147 _ _ _ ?_;refine AW.seq fun K150 hK150=>?_;refine AW.block ?_;refine SQ [] [none,none,none] fun _ _ g r=>?_;obtain ⟨v6,h4,h5,h6,hF⟩:=Aab hF;have h6_:=Aaw h6;try simp at h6_
   have h5_:=h5;try simp at h5_
   have F2:=A6 F1 h4 h5 h6 h6_ h5_;try simp [F2]
   and_intros <;> first | exact GK g | apply r | omega | (simp [maxLen,F2] <;> omega)
   refine WK [(4,AV.slc 0 0 1 v5.length true),(6,Iz v6),(11,Lz v0),(12,Iz (v0.length : Int)),(13,Iz v4)] [(0,Ci v5)] 1 (by simp [F2]) (by simp [F2]) ?_;refine RG [] [none,none,none,none,none,none,none,none,none,none,none] fun _ _ g r=>?_;obtain ⟨⟨h7,h8⟩,hF⟩:=AbH hF;have h8_:=Ac8 h8;obtain ⟨v7,h9,h10,h11,hF⟩:=Aab hF;have h11_:=Aaw h11;try simp at h11_
   have h10_:=h10;try simp at h10_
   obtain ⟨h12,hF⟩:=AbH hF;obtain ⟨⟨h13,h14⟩,hF⟩:=AbH hF;have h14_:=Ac8 h14;have F3:=A9 F2 h7 h8 h8_ h9 h10 h11 h11_ (A5 h10_ h12 h13 h14 h14_);try simp [F3]
   and_intros <;> first | exact GK g | apply r | omega | (simp [maxLen,F3] <;> omega)
   refine hK150 _ _ _ ?_;refine WK [(4,AV.slc 0 0 1 ((v5.set (IntKind.wrap .i64 (Int.tdiv v6 32)).toNat (AcZ .or .i64 v7 (IntKind.wrap .i64 (1*2 ^ (min ((Int.tmod v6 32).toNat) 64))))).length) true),(11,Lz v0),(12,Iz (v0.length : Int)),(13,Iz v4)] [(0,Ci (v5.set (IntKind.wrap .i64 (Int.tdiv v6 32)).toNat (AcZ .or .i64 v7 (IntKind.wrap .i64 (1*2 ^ (min ((Int.tmod v6 32).toNat) 64))))))] 1 (by simp [F3]) (by simp [F3]) ?_;refine RG [] [none,none] fun _ _ g r=>?_;try simp [F3]
   and_intros <;> first | exact GK g | apply r | omega | (simp [maxLen,F3] <;> omega)
   refine hK145 _ _ _ ?_;exact NX (k':=n1) ((IntKind.wrap .i64 (v4+1),v5.set (IntKind.wrap .i64 (Int.tdiv v6 32)).toNat (AcZ .or .i64 v7 (IntKind.wrap .i64 (1*2 ^ (min ((Int.tmod v6 32).toNat) 64)))))) hF (by simp [F3]) (by simp [F3])
  ·replace hF:=AaG h3 hF;have h3_:=h3;try simp at h3_
   have F4:=A4 h2 h2_ h3 h3_;refine CF (by simp [F4] <;> omega) ?_;refine AW.exit ?_;try simp
   refine hK119 _ _ _ ?_;refine SQ [] [none,none,none] fun _ _ g r=>?_;try simp [F4]
   and_intros <;> first | exact GK g | apply r | omega | (simp [maxLen,F4] <;> omega)
   refine WK [(2,AV.slc 0 0 1 v5.length true),(3,Iz 0)] [(0,Ci v5)] 1 (by simp [F4]) (by simp [F4]) ?_;refine WK [(2,AV.slc 0 0 1 v5.length true),(3,Iz 0)] [(0,Ci v5)] 1 (by simp [F4]) (by simp [F4]) ?_;refine AW.frz 0 (o:=Ci v5) (by simp [F4]) rfl [(2,AV.lst false true (List.map (AV.int .i64) v5))] [] ⟨(.l (by simp) (by simp) (by simp) (by simp)),trivial⟩ trivial ?_;refine AW.flg [(2,Lz v5)] [] ⟨(.lst (by simp)),trivial⟩ trivial (by simp) ?_;simp only [Option.some.injEq,Prod.mk.injEq] at hF;obtain ⟨e0,e1⟩:=hF;subst e0 e1;refine AW.ret (hQ _ _ _ ?_ (AaB ?_)).1
   ·simp [Try.f32,F4]
   ·simp [F4]
theorem Ad0 (k : Nat) (v0 : Int) (v1 : Bool) (hF : AbP k v0=some v1) :
 Aa0 Try.prog 64 [AV.int .i64 v0] [] (AV.bool v1) []:=by
 unfold AbP at hF;refine EN Try.func64 ?_;intro c0 w0 Q h0 hQ
 refine WK [(0,Iz v0)] [] 0 (by simp) (by simp) ?_;refine SQ [] [none] fun _ _ g r=>?_;try simp
 and_intros <;> first | exact GK g | apply r | omega | (simp [maxLen] <;> omega)
 refine WK [(0,Iz v0)] [] 0 (by simp) (by simp) ?_;refine SQ [] [none,none,none,some (5,false),some (5,false),none,none] fun _ _ g r=>?_;by_cases h1 : v0<0
 ·replace hF:=AaF h1 hF;have h1_:=h1;try simp at h1_
  try simp [h1,h1_]
  and_intros <;> first | exact GK g | apply r | omega | (simp [h1,h1_,maxLen] <;> omega)
  refine WK [(2,AV.bool true)] [] 0 (by simp [h1,h1_]) (by simp [h1,h1_]) ?_;simp only [Option.some.injEq] at hF;subst hF;refine AW.ret (hQ _ _ _ ?_ (AaB ?_)).1
  ·simp [Try.f64,h1,h1_]
  ·simp [h1,h1_]
 ·replace hF:=AaG h1 hF;have h1_:=h1;try simp at h1_
  try simp [h1,h1_]
  and_intros <;> first | exact GK g | apply r | omega | (simp [h1,h1_,maxLen] <;> omega)
  refine WK [(2,AV.bool (decide (4294967296≤v0)))] [] 0 (by simp [h1,h1_]) (by simp [h1,h1_]) ?_;simp only [Option.some.injEq] at hF;subst hF;refine AW.ret (hQ _ _ _ ?_ (AaB ?_)).1
  ·simp [Try.f64,h1,h1_]
  ·simp [h1,h1_]
theorem Abc (k : Nat) (v0 : (List Int)) (v1 : Int) (hF : AaC k v0=some v1) :
 Aa0 Try.prog 105 [AV.lst false false (List.map (AV.int .i64) v0),AV.fn 64 []] [] (AV.int .i64 v1) []:=by
 unfold AaC at hF;refine EN Try.func105 ?_;intro c0 w0 Q h0 hQ
 refine WK [(0,Lz v0),(1,AV.fn 64 [])] [] 0 (by simp) (by simp) ?_;refine SQ [] [none] fun _ _ g r=>?_;try simp
 and_intros <;> first | exact GK g | apply r | omega | (simp [maxLen] <;> omega)
 refine WK [(0,Lz v0),(1,AV.fn 64 [])] [] 0 (by simp) (by simp) ?_;refine AW.seq fun K131 hK131=>?_;refine SQ [] [none,none,none] fun _ _ g r=>?_;try simp
 and_intros <;> first | exact GK g | apply r | omega | (simp [maxLen] <;> omega)
 refine WK [(0,Lz v0),(1,AV.fn 64 []),(7,Iz (v0.length : Int)),(8,Iz 0)] [] 0 (by simp) (by simp) ?_;refine AW.block ?_;refine AW.loopF (α:=Int) (fun n v2=>AaC.L1 k v0 n v2=some v1) (fun v2=>[(0,Lz v0),(1,AV.fn 64 []),(7,Iz (v0.length : Int)),(8,Iz v2)]) (fun v2=>[]) 0 k (0) hF (by simp) (by simp) (by simp) ?_;rintro (_|n1) v2 hF K163 hK163
 ·try dsimp only at hF
  rw [AaC.L1] at hF; cases hF
 try dsimp only at hF
 rw [AaC.L1] at hF;refine SQ [] [none] fun _ _ g r=>?_;try simp
 and_intros <;> first | exact GK g | apply r | omega | (simp [maxLen] <;> omega)
 refine WK [(0,Lz v0),(1,AV.fn 64 []),(7,Iz (v0.length : Int)),(8,Iz v2),(9,AV.bool (decide (v2<(v0.length : Int))))] [] 0 (by simp) (by simp) ?_;refine AW.seq fun K165 hK165=>?_;by_cases h1 : v2<(v0.length : Int)
 ·replace hF:=AaF h1 hF;have h1_:=h1;try simp at h1_
  refine CT (by simp [h1,h1_] <;> omega) ?_;refine AW.skip ?_;refine hK165 _ _ _ ?_;refine AW.seq fun K169 hK169=>?_;refine AW.block ?_;refine SQ [] [none,none] fun _ _ g r=>?_;try simp [h1,h1_]
  and_intros <;> first | exact GK g | apply r | omega | (simp [h1,h1_,maxLen] <;> omega)
  refine WK [(0,Lz v0),(1,AV.fn 64 []),(5,Iz v2),(7,Iz (v0.length : Int)),(8,Iz v2)] [] 0 (by simp [h1,h1_]) (by simp [h1,h1_]) ?_;refine SQ [] [none,none,none,none,none,none] fun _ _ g r=>?_;obtain ⟨v3,h2,h3,h4,hF⟩:=Aab hF;have h4_:=Aaw h4;try simp at h4_
  have h3_:=h3;try simp at h3_
  have F1:=A7 h1 h1_ h2 h3 h4 h4_ h3_;try simp [F1]
  and_intros
  try any_goals first | omega | (simp [maxLen,F1] <;> omega)
  obtain ⟨v4,h5,hF⟩:=AaD hF;refine AC (Ad0 k _ _ h5) (.cons (.same (by simp [F1])) .nil) ?_;try simp [F1]
  and_intros <;> first | exact GK g | apply r | omega | (simp [maxLen,F1] <;> omega)
  refine WK [(0,Lz v0),(1,AV.fn 64 []),(5,Iz v2),(7,Iz (v0.length : Int)),(8,Iz v2),(16,AV.bool v4)] [] 0 (by simp [F1]) (by simp [F1]) ?_;by_cases h6 : v4=true
  ·replace hF:=AaF h6 hF;have h6_:=h6;try simp at h6_
   have F2:=A3 F1 h6 h6_;refine CT (by simp [F2] <;> omega) ?_;refine SQ [] [none,none] fun _ _ g r=>?_;try simp [F2]
   and_intros <;> first | exact GK g | apply r | omega | (simp [maxLen,F2] <;> omega)
   refine WK [(4,Iz v2)] [] 0 (by simp [F2]) (by simp [F2]) ?_;simp only [Option.some.injEq] at hF;subst hF;refine AW.ret (hQ _ _ _ ?_ (AaB ?_)).1
   ·simp [Try.f105,F2]
   ·simp [F2]
  ·replace hF:=AaG h6 hF;have h6_:=h6;try simp at h6_
   have F3:=A3 F1 h6 h6_;refine CF (by simp [F3] <;> omega) ?_;refine AW.skip ?_;refine hK169 _ _ _ ?_;refine RG [] [none,none] fun _ _ g r=>?_;try simp [F3]
   and_intros <;> first | exact GK g | apply r | omega | (simp [maxLen,F3] <;> omega)
   refine hK163 _ _ _ ?_;exact NX (k':=n1) (IntKind.wrap .i64 (v2+1)) hF (by simp [F3]) (by simp [F3])
 ·replace hF:=AaG h1 hF;have h1_:=h1;try simp at h1_
  refine CF (by simp [h1,h1_] <;> omega) ?_;refine AW.exit ?_;try simp
  refine hK131 _ _ _ ?_;refine SQ [] [none] fun _ _ g r=>?_;try simp [h1,h1_]
  and_intros <;> first | exact GK g | apply r | omega | (simp [h1,h1_,maxLen] <;> omega)
  refine WK [(4,Iz (-1))] [] 0 (by simp [h1,h1_]) (by simp [h1,h1_]) ?_;simp only [Option.some.injEq] at hF;subst hF;refine AW.ret (hQ _ _ _ ?_ (AaB ?_)).1
  ·simp [Try.f105,h1,h1_]
  ·simp [h1,h1_]
theorem AbU (k : Nat) (v0 : (List Int)) (v1 : Bool) (hF : AaT k v0=some v1) :
 Aa0 Try.prog 65 [AV.lst false false (List.map (AV.int .i64) v0),AV.fn 64 []] [] (AV.bool v1) []:=by
 unfold AaT at hF;refine EN Try.func65 ?_;intro c0 w0 Q h0 hQ
 refine WK [(0,Lz v0),(1,AV.fn 64 [])] [] 0 (by simp) (by simp) ?_;refine SQ [] [none] fun _ _ g r=>?_;try simp
 and_intros <;> first | exact GK g | apply r | omega | (simp [maxLen] <;> omega)
 refine WK [(0,Lz v0),(1,AV.fn 64 [])] [] 0 (by simp) (by simp) ?_;refine SQ [] [none,none,none,none,none] fun _ _ g r=>?_;try simp
 and_intros
 try any_goals first | omega | (simp [maxLen] <;> omega)
 obtain ⟨v2,h1,hF⟩:=AaD hF;refine AC (Abc k _ _ h1) (.cons (.same (by simp)) (.cons (.same (by simp)) .nil)) ?_;try simp
 and_intros <;> first | exact GK g | apply r | omega | (simp [maxLen] <;> omega)
 refine WK [(4,AV.bool (decide (0≤v2)))] [] 0 (by simp) (by simp) ?_;simp only [Option.some.injEq] at hF;subst hF;refine AW.ret (hQ _ _ _ ?_ (AaB ?_)).1
 ·simp [Try.f65]
 ·simp
theorem AeQ (k : Nat) (v0 : (List Int)) (v1 : (List Int)) (v2 : Int) (hF : AaH k v0=some (v1,v2)) :
 Aa0 Try.prog 33 [AV.lst false false (List.map (AV.int .i64) v0)] [] (AV.tup [AV.slc 0 0 1 v1.length false,AV.int .i64 v2]) [some (Gi v1)]:=by
 unfold AaH at hF;refine EN Try.func33 ?_;intro c0 w0 Q h0 hQ
 refine WK [(0,Lz v0)] [] 0 (by simp) (by simp) ?_;refine SQ [] [none,none] fun _ _ g r=>?_;try simp
 and_intros <;> first | exact GK g | apply r | omega | (simp [maxLen] <;> omega)
 refine WK [(0,Lz v0)] [] 0 (by simp) (by simp) ?_;refine SQ [] [none] fun _ _ g r=>?_;try simp
 and_intros <;> first | exact GK g | apply r | omega | (simp [maxLen] <;> omega)
 refine WK [(0,Lz v0),(4,AV.fn 64 [])] [] 0 (by simp) (by simp) ?_;refine AW.midF (α:=Unit) (fun _=>AaH.J1 k v0=some (v1,v2)) (fun _=>[(0,Lz v0)]) (fun _=>[]) 0 (fun K192 hK192=>?_) ?_
 ·refine SQ [] [none,none,none,none,some (10,false),some (10,false),some (10,false),none,none,some (15,false),some (15,false),some (15,false),some (15,false),some (15,false),some (20,true),some (20,true),some (20,true),some (20,true),some (15,false),none] fun _ _ g r=>?_;by_cases h8 : (v0.length : Int)≠2
  ·replace hF:=AaF h8 hF;have h8_:=Aa7 h8;have h8__:=Aa9 h8;have F1:=A3 h8 h8_ h8__;try simp [F1]
   and_intros <;> first | exact GK g | apply r | omega | (simp [maxLen,F1] <;> omega)
   refine WK [(0,Lz v0),(26,AV.bool true)] [] 0 (by simp [F1]) (by simp [F1]) ?_;refine CT (by simp [F1]) ?_;refine SQ [] [none,none] fun _ _ g r=>?_;try simp [F1]
   and_intros <;> first | exact GK g | apply r | omega | (simp [maxLen,F1] <;> omega)
   refine WK [(2,AV.lst true true (List.map (AV.int .i64) ([] : List Int))),(3,Iz 43)] [] 0 (by simp [F1]) (by simp [F1]) ?_;refine AW.own' 2 1 true (by simp [F1]) (by decide) ?_;simp only [Option.some.injEq,Prod.mk.injEq] at hF;obtain ⟨e0,e1⟩:=hF;subst e0 e1;refine AW.ret (hQ _ _ _ ?_ (AaB ?_)).1
   ·simp [Try.f33,F1]
   ·simp [F1]
  ·replace hF:=AaG h8 hF;have h8q : (v0.length : Int)=2:=Classical.not_not.1 h8;have h8_:=AbB h8q;have h8__:=AbA h8q;have F2:=A3 h8_ h8__ h8q;try simp [F2]
   and_intros
   try any_goals first | omega | (simp [maxLen,F2] <;> omega)
   obtain ⟨v7,h9,hF⟩:=AaD hF;refine AC (AbU k _ _ h9) (.cons (.same (by simp [F2])) (.cons (.same (by simp [F2])) .nil)) ?_;by_cases h10 : v7=true
   ·replace hF:=AaF h10 hF;have h10_:=h10;try simp at h10_
    have F3:=A3 F2 h10 h10_;try simp [F3]
    and_intros <;> first | exact GK g | apply r | omega | (simp [maxLen,F3] <;> omega)
    refine WK [(0,Lz v0),(26,AV.bool true)] [] 0 (by simp [F3]) (by simp [F3]) ?_;refine CT (by simp [F3]) ?_;refine SQ [] [none,none] fun _ _ g r=>?_;try simp [F3]
    and_intros <;> first | exact GK g | apply r | omega | (simp [maxLen,F3] <;> omega)
    refine WK [(2,AV.lst true true (List.map (AV.int .i64) ([] : List Int))),(3,Iz 43)] [] 0 (by simp [F3]) (by simp [F3]) ?_;refine AW.own' 2 1 true (by simp [F3]) (by decide) ?_;simp only [Option.some.injEq,Prod.mk.injEq] at hF;obtain ⟨e0,e1⟩:=hF;subst e0 e1;refine AW.ret (hQ _ _ _ ?_ (AaB ?_)).1
    ·simp [Try.f33,F3]
    ·simp [F3]
   ·replace hF:=AaG h10 hF;have h10_:=h10;try simp at h10_
    obtain ⟨v8,h11,h12,h13,hF⟩:=Aab hF;have h13_:=Aaw h13;try simp at h13_
    have h12_:=h12;try simp at h12_
    have h13z:=AiE h13;by_cases h14 : v8=0
    ·replace hF:=AaF h14 hF;have h14q : v8=0:=h14;have h14_:=AbB h14q;have h14__:=AbA h14q;obtain ⟨v9,h15,h16,h17,hF⟩:=Aab hF;have h17_:=Aaw h17;try simp at h17_
     have h16_:=h16;try simp at h16_
     have F4:=A9 F2 h10 h10_ h11 h12 h13 h13_ h12_ (A9 h13z h14_ h14__ h14q h15 h16 h17 h17_ h16_);try simp [F4]
     and_intros <;> first | exact GK g | apply r | omega | (simp [maxLen,F4] <;> omega)
     refine WK [(0,Lz v0),(26,AV.bool (v9==0))] [] 0 (by simp [F4]) (by simp [F4]) ?_;by_cases h18 : v9=0
     ·replace hF:=AaF h18 hF;have h18q : v9=0:=h18;have h18_:=AbB h18q;have h18__:=AbA h18q;have F5:=A4 F4 h18_ h18__ h18q;refine CT (by simp [F5] <;> omega) ?_;refine SQ [] [none,none] fun _ _ g r=>?_;try simp [F5]
      and_intros <;> first | exact GK g | apply r | omega | (simp [maxLen,F5] <;> omega)
      refine WK [(2,AV.lst true true (List.map (AV.int .i64) ([] : List Int))),(3,Iz 43)] [] 0 (by simp [F5]) (by simp [F5]) ?_;refine AW.own' 2 1 true (by simp [F5]) (by decide) ?_;simp only [Option.some.injEq,Prod.mk.injEq] at hF;obtain ⟨e0,e1⟩:=hF;subst e0 e1;refine AW.ret (hQ _ _ _ ?_ (AaB ?_)).1
      ·simp [Try.f33,F5]
      ·simp [F5]
     ·replace hF:=AaG h18 hF;have h18_:=Aa7 h18;have h18__:=Aa9 h18;have F6:=A4 F4 h18 h18_ h18__;refine CF (by simp [F6] <;> omega) ?_;refine AW.skip ?_;refine hK192 _ _ _ ?_;exact JN (()) hF (by simp [F6]) (by simp [F6])
    ·replace hF:=AaG h14 hF;have h14_:=Aa7 h14;have h14__:=Aa9 h14;have F7:=A9 F2 h10 h10_ h11 h12 h13 h13_ h12_ (A4 h13z h14 h14_ h14__);try simp [F7]
     and_intros <;> first | exact GK g | apply r | omega | (simp [maxLen,F7] <;> omega)
     refine WK [(0,Lz v0),(26,AV.bool false)] [] 0 (by simp [F7]) (by simp [F7]) ?_;refine CF (by simp [F7]) ?_;refine AW.skip ?_;refine hK192 _ _ _ ?_;exact JN (()) hF (by simp [F7]) (by simp [F7])
 ·rintro ⟨⟩ hF
  try dsimp only at hF
  unfold AaH.J1 at hF;refine SQ [] [none] fun _ _ g r=>?_;try simp
  and_intros <;> first | exact GK g | apply r | omega | (simp [maxLen] <;> omega)
  refine WK [(0,Lz v0),(5,AV.lst true true (List.map (AV.int .i64) ([] : List Int)))] [] 0 (by simp) (by simp) ?_;refine AW.seq fun K148 hK148=>?_;refine SQ [] [none] fun _ _ g r=>?_;try simp
  and_intros <;> first | exact GK g | apply r | omega | (simp [maxLen] <;> omega)
  refine WK [(0,Lz v0),(5,AV.lst true true (List.map (AV.int .i64) ([] : List Int))),(27,Iz 0)] [] 0 (by simp) (by simp) ?_;refine AW.block ?_;refine AW.own' 5 1 true (by simp) (by decide) ?_;refine AW.loopF (α:=(Int×(List Int))) (fun n (v3,v4)=>AaH.L2 k v0 n v3 v4=some (v1,v2)) (fun (v3,v4)=>[(0,Lz v0),(5,AV.slc 0 0 1 v4.length false),(27,Iz v3)]) (fun (v3,v4)=>[(0,Gi v4)]) 1 k ((0,([] : List Int))) hF (by simp) (by simp) (by simp) ?_;rintro (_|n2) ⟨v3,v4⟩ hF K180 hK180
  ·try dsimp only at hF
   rw [AaH.L2] at hF; cases hF
  try dsimp only at hF
  rw [AaH.L2] at hF;refine SQ [] [none] fun _ _ g r=>?_;try simp
  and_intros <;> first | exact GK g | apply r | omega | (simp [maxLen] <;> omega)
  refine WK [(0,Lz v0),(5,AV.slc 0 0 1 v4.length false),(27,Iz v3),(28,AV.bool (decide (v3<64)))] [(0,Gi v4)] 1 (by simp) (by simp) ?_;refine AW.seq fun K182 hK182=>?_;by_cases h1 : v3<64
  ·replace hF:=AaF h1 hF;have h1_:=h1;try simp at h1_
   refine CT (by simp [h1,h1_] <;> omega) ?_;refine AW.skip ?_;refine hK182 _ _ _ ?_;refine AW.midF (α:=(List Int)) (fun v5=>AaH.J3 k v3 (fun v3_ v4_=>AaH.L2 k v0 n2 v3_ v4_) v5=some (v1,v2)) (fun v5=>[(0,Lz v0),(5,AV.slc 0 0 1 v5.length false),(27,Iz v3)]) (fun v5=>[(0,Gi v5)]) 1 (fun K187 hK187=>?_) ?_
   ·refine AW.block ?_;refine SQ [] [none,none] fun _ _ g r=>?_;try simp [h1,h1_]
    and_intros <;> first | exact GK g | apply r | omega | (simp [h1,h1_,maxLen] <;> omega)
    refine WK [(0,Lz v0),(5,AV.slc 0 0 1 v4.length false),(6,Iz v3),(27,Iz v3)] [(0,Gi v4)] 1 (by simp [h1,h1_]) (by simp [h1,h1_]) ?_;refine SQ [] [none,none,none,none,none,none,none,none,none,none] fun _ _ g r=>?_;obtain ⟨v6,h2,h3,h4,hF⟩:=Aab hF;have h4_:=Aaw h4;try simp at h4_
    have h3_:=h3;try simp at h3_
    obtain ⟨h5,hF⟩:=AbH hF;have F8:=A8 h1 h1_ h2 h3 h4 h4_ h3_ h5;try simp [F8]
    and_intros <;> first | exact GK g | apply r | omega | (simp [maxLen,F8] <;> omega)
    refine WK [(0,Lz v0),(5,AV.slc 0 0 1 v4.length false),(6,Iz v3),(27,Iz v3),(39,AV.bool ((AcZ .and .i64 (Int.fdiv v6 (2 ^ (min ((Int.tmod v3 32).toNat) 64))) 1)==1))] [(0,Gi v4)] 1 (by simp [F8]) (by simp [F8]) ?_;by_cases h6 : (AcZ .and .i64 (Int.fdiv v6 (2 ^ (min ((Int.tmod v3 32).toNat) 64))) 1)=1
    ·replace hF:=AaF h6 hF;have h6q : (AcZ .and .i64 (Int.fdiv v6 (2 ^ (min ((Int.tmod v3 32).toNat) 64))) 1)=1:=h6;have h6_:=AbB h6q;have h6__:=AbA h6q;refine CT (by simp [F8,h6_,h6__,h6q] <;> omega) ?_;refine RG [] [none,none,none,none,none] fun _ _ g r=>?_;obtain ⟨h7,hF⟩:=AbH hF;have h7_:=h7;try simp at h7_
     have F9:=A5 F8 h6_ h6__ h6q h7;try simp [F9]
     and_intros <;> first | exact GK g | apply r | omega | (simp [maxLen,F9] <;> omega)
     refine hK187 _ _ _ ?_;refine RN h0 [(0,1)] [(0,Lz v0),(5,AV.slc 0 0 1 ((v4++([v3] : List Int)).length) false),(27,Iz v3)] [(0,Gi (v4++([v3] : List Int)))] 1 (by simp [F9] <;> omega) (by simp [F9]) ?_;exact JN (v4++([v3] : List Int)) hF (by simp [F9]) (by simp [F9])
    ·replace hF:=AaG h6 hF;have h6_:=Aa7 h6;have h6__:=Aa9 h6;have F10:=A4 F8 h6 h6_ h6__;refine CF (by simp [F10] <;> omega) ?_;refine AW.skip ?_;refine hK187 _ _ _ ?_;exact JN (v4) hF (by simp [F10]) (by simp [F10])
   ·rintro v5 hF
    try dsimp only at hF
    unfold AaH.J3 at hF;refine RG [] [none,none] fun _ _ g r=>?_;try simp [h1,h1_]
    and_intros <;> first | exact GK g | apply r | omega | (simp [h1,h1_,maxLen] <;> omega)
    refine hK180 _ _ _ ?_;exact NX (k':=n2) ((IntKind.wrap .i64 (v3+1),v5)) hF (by simp [h1,h1_]) (by simp [h1,h1_])
  ·replace hF:=AaG h1 hF;have h1_:=h1;try simp at h1_
   refine CF (by simp [h1,h1_] <;> omega) ?_;refine AW.exit ?_;try simp
   refine hK148 _ _ _ ?_;refine SQ [] [none,none,none] fun _ _ g r=>?_;try simp [h1,h1_]
   and_intros <;> first | exact GK g | apply r | omega | (simp [h1,h1_,maxLen] <;> omega)
   refine WK [(2,AV.slc 0 0 1 v4.length false),(3,Iz 0)] [(0,Gi v4)] 1 (by simp [h1,h1_]) (by simp [h1,h1_]) ?_;simp only [Option.some.injEq,Prod.mk.injEq] at hF;obtain ⟨e0,e1⟩:=hF;subst e0 e1;refine AW.ret (hQ _ _ _ ?_ (AaB ?_)).1
   ·simp [Try.f33,h1,h1_]
   ·simp [h1,h1_]
theorem Acj (k : Nat) (v0 : (List Int)) (v1 : (List Int)) (v2 : Bool) (hF : AaX k v0 v1=some v2) :
 Aa0 Try.prog 17 [AV.lst false false (List.map (AV.int .i64) v0),AV.lst false false (List.map (AV.int .i64) v1)] [] (AV.bool v2) []:=by
 unfold AaX at hF;refine EN Try.func17 ?_;intro c0 w0 Q h0 hQ
 refine WK [(0,Lz v0),(1,Lz v1)] [] 0 (by simp) (by simp) ?_;refine SQ [] [none] fun _ _ g r=>?_;try simp
 and_intros <;> first | exact GK g | apply r | omega | (simp [maxLen] <;> omega)
 refine WK [(0,Lz v0),(1,Lz v1)] [] 0 (by simp) (by simp) ?_;refine AW.seq fun K88 hK88=>?_;refine SQ [] [none,none,none,none,none] fun _ _ g r=>?_;try simp
 and_intros <;> first | exact GK g | apply r | omega | (simp [maxLen] <;> omega)
 refine WK [(0,Lz v0),(1,Lz v1),(10,AV.bool ((v0.length : Int) !=(v1.length : Int)))] [] 0 (by simp) (by simp) ?_;by_cases h1 : (v0.length : Int)≠(v1.length : Int)
 ·replace hF:=AaF h1 hF;have h1_:=Aa7 h1;have h1__:=Aa9 h1;have F1:=A3 h1 h1_ h1__;refine CT (by simp [F1] <;> omega) ?_;refine SQ [] [none] fun _ _ g r=>?_;try simp [F1]
  and_intros <;> first | exact GK g | apply r | omega | (simp [maxLen,F1] <;> omega)
  refine WK [(4,AV.bool false)] [] 0 (by simp [F1]) (by simp [F1]) ?_;simp only [Option.some.injEq] at hF;subst hF;refine AW.ret (hQ _ _ _ ?_ (AaB ?_)).1
  ·simp [Try.f17,F1]
  ·simp [F1]
 ·replace hF:=AaG h1 hF;have h1q : (v0.length : Int)=(v1.length : Int):=Classical.not_not.1 h1;have h1_:=AbB h1q;have h1__:=AbA h1q;refine CF (by simp [h1_,h1__] <;> omega) ?_;refine AW.skip ?_;refine hK88 _ _ _ ?_;refine AW.seq fun K129 hK129=>?_;refine SQ [] [none] fun _ _ g r=>?_;try simp [h1_,h1__]
  and_intros <;> first | exact GK g | apply r | omega | (simp [h1_,h1__,maxLen] <;> omega)
  refine WK [(0,Lz v0),(1,Lz v1),(5,Iz 0)] [] 0 (by simp [h1_,h1__]) (by simp [h1_,h1__]) ?_;refine AW.block ?_;refine AW.loopF (α:=Int) (fun n v3=>AaX.L1 k v0 v1 n v3=some v2) (fun v3=>[(0,Lz v0),(1,Lz v1),(5,Iz v3)]) (fun v3=>[]) 0 k (0) hF (by simp [h1_,h1__]) (by simp [h1_,h1__]) (by simp) ?_;rintro (_|n1) v3 hF K158 hK158
  ·try dsimp only at hF
   rw [AaX.L1] at hF; cases hF
  try dsimp only at hF
  rw [AaX.L1] at hF;refine AW.seq fun K160 hK160=>?_;refine SQ [] [none,none,none,none] fun _ _ g r=>?_;try simp [h1_,h1__]
  and_intros <;> first | exact GK g | apply r | omega | (simp [h1_,h1__,maxLen] <;> omega)
  refine WK [(0,Lz v0),(1,Lz v1),(5,Iz v3),(14,AV.bool (decide (v3<(v0.length : Int))))] [] 0 (by simp [h1_,h1__]) (by simp [h1_,h1__]) ?_;by_cases h2 : v3<(v0.length : Int)
  ·replace hF:=AaF h2 hF;have h2_:=h2;try simp at h2_
   have F2:=A4 h1_ h1__ h2 h2_;refine CT (by simp [F2] <;> omega) ?_;refine AW.skip ?_;refine hK160 _ _ _ ?_;refine AW.seq fun K164 hK164=>?_;refine AW.block ?_;refine SQ [] [none,none,none,none,none,none,none,none,none] fun _ _ g r=>?_;obtain ⟨v4,h3,h4,h5,hF⟩:=Aab hF;have h5_:=Aaw h5;try simp at h5_
   have h4_:=h4;try simp at h4_
   obtain ⟨v5,h6,h7,h8,hF⟩:=Aab hF;have h8_:=Aaw h8;try simp at h8_
   have h7_:=h7;try simp at h7_
   have F3:=A9 F2 h3 h4 h5 h5_ h4_ h6 h7 (A3 h8 h8_ h7_);try simp [F3]
   and_intros <;> first | exact GK g | apply r | omega | (simp [maxLen,F3] <;> omega)
   refine WK [(0,Lz v0),(1,Lz v1),(5,Iz v3),(25,AV.bool (v4 !=v5))] [] 0 (by simp [F3]) (by simp [F3]) ?_;by_cases h9 : v4≠v5
   ·replace hF:=AaF h9 hF;have h9_:=Aa7 h9;have h9__:=Aa9 h9;have F4:=A4 F3 h9 h9_ h9__;refine CT (by simp [F4] <;> omega) ?_;refine SQ [] [none] fun _ _ g r=>?_;try simp [F4]
    and_intros <;> first | exact GK g | apply r | omega | (simp [maxLen,F4] <;> omega)
    refine WK [(4,AV.bool false)] [] 0 (by simp [F4]) (by simp [F4]) ?_;simp only [Option.some.injEq] at hF;subst hF;refine AW.ret (hQ _ _ _ ?_ (AaB ?_)).1
    ·simp [Try.f17,F4]
    ·simp [F4]
   ·replace hF:=AaG h9 hF;have h9q : v4=v5:=Classical.not_not.1 h9;have h9_:=AbB h9q;have h9__:=AbA h9q;have F5:=A3 F3 h9_ h9__;refine CF (by simp [F5] <;> omega) ?_;refine AW.skip ?_;refine hK164 _ _ _ ?_;refine RG [] [none,none,none] fun _ _ g r=>?_;try simp [F5]
    and_intros <;> first | exact GK g | apply r | omega | (simp [maxLen,F5] <;> omega)
    refine hK158 _ _ _ ?_;exact NX (k':=n1) (IntKind.wrap .i64 (v3+1)) hF (by simp [F5]) (by simp [F5])
  ·replace hF:=AaG h2 hF;have h2_:=h2;try simp at h2_
   have F6:=A4 h1_ h1__ h2 h2_;refine CF (by simp [F6] <;> omega) ?_;refine AW.exit ?_;try simp
   refine hK129 _ _ _ ?_;refine SQ [] [none] fun _ _ g r=>?_;try simp [F6]
   and_intros <;> first | exact GK g | apply r | omega | (simp [maxLen,F6] <;> omega)
   refine WK [(4,AV.bool true)] [] 0 (by simp [F6]) (by simp [F6]) ?_;simp only [Option.some.injEq] at hF;subst hF;refine AW.ret (hQ _ _ _ ?_ (AaB ?_)).1
   ·simp [Try.f17,F6]
   ·simp [F6]
theorem Ace (k : Nat) (v0 : Bool) (hF : Abe k=some v0) :
 Aa0 Try.prog 8 [] [] (AV.bool v0) []:=by
 unfold Abe at hF;refine EN Try.func8 ?_;intro c0 w0 Q h0 hQ
 refine WK [] [] 0 (by simp) (by simp) ?_;refine SQ [] [none] fun _ _ g r=>?_;try simp
 and_intros <;> first | exact GK g | apply r | omega | (simp [maxLen] <;> omega)
 refine WK [] [] 0 (by simp) (by simp) ?_;refine SQ [] [none,none,none,none,none,none,none] fun _ _ g r=>?_;try simp
 and_intros
 try any_goals first | omega | (simp [maxLen] <;> omega)
 obtain ⟨v1,v2,h1,hF⟩:=Aak hF;refine AC (AeP k _ _ _ h1) (.cons (Coe.fl (by simp)) .nil) ?_;try simp
 and_intros <;> first | exact GK g | apply r | omega | (simp [maxLen] <;> omega)
 refine WK [(1,Lz v1),(2,Iz v2)] [] 0 (by simp) (by simp) ?_;refine SQ [] [none,none,none,none,none,none,none] fun _ _ g r=>?_;try simp
 and_intros
 try any_goals first | omega | (simp [maxLen] <;> omega)
 obtain ⟨v3,v4,h2,hF⟩:=Aak hF;refine AC (AeQ k _ _ _ h2) (.cons (.same (by simp)) .nil) ?_;try simp
 and_intros <;> first | exact GK g | apply r | omega | (simp [maxLen] <;> omega)
 refine WK [(1,Lz v1),(2,Iz v2),(3,AV.slc 0 0 1 v3.length false),(4,Iz v4)] [(0,Gi v3)] 1 (by simp) (by simp) ?_;refine AW.frz 0 (o:=Gi v3) (by simp) rfl [(3,Lz v3)] [] ⟨(.l (by simp) (by simp) (by simp) (by simp)),trivial⟩ trivial ?_;refine WK [(1,Lz v1),(2,Iz v2),(3,Lz v3),(4,Iz v4)] [] 1 (by simp) (by simp) ?_;refine SQ [] [none,none,none,some (17,true),some (17,true),none,none,some (21,true),some (21,true),some (21,true),none,none,some (26,true),some (26,true),some (26,true),none,none] fun _ _ g r=>?_;by_cases h3 : v2=0
 ·replace hF:=AaF h3 hF;have h3q : v2=0:=h3;have h3_:=AbB h3q;have h3__:=AbA h3q;by_cases h4 : v4=0
  ·replace hF:=AaF h4 hF;have h4q : v4=0:=h4;have h4_:=AbB h4q;have h4__:=AbA h4q;have F1:=A6 h3_ h3__ h3q h4_ h4__ h4q;try simp [F1]
   and_intros
   try any_goals first | omega | (simp [maxLen,F1] <;> omega)
   obtain ⟨v5,h5,hF⟩:=AaD hF;refine AC (Acj k _ _ _ h5) (.cons (.same (by simp [F1])) (.cons (Coe.fl (by simp [F1])) .nil)) ?_;by_cases h6 : v5=true
   ·replace hF:=AaF h6 hF;have h6_:=h6;try simp at h6_
    have F2:=A3 F1 h6 h6_;try simp [F2]
    and_intros
    try any_goals first | omega | (simp [maxLen,F2] <;> omega)
    obtain ⟨v6,h7,hF⟩:=AaD hF;refine AC (Acj k _ _ _ h7) (.cons (.same (by simp [F2])) (.cons (Coe.fl (by simp [F2])) .nil)) ?_;try simp [F2]
    and_intros <;> first | exact GK g | apply r | omega | (simp [maxLen,F2] <;> omega)
    refine WK [(0,AV.bool v6)] [] 1 (by simp [F2]) (by simp [F2]) ?_;simp only [Option.some.injEq] at hF;subst hF;refine AW.ret (hQ _ _ _ ?_ (AaB ?_)).1
    ·simp [Try.f8,F2]
    ·simp [F2]
   ·replace hF:=AaG h6 hF;have h6_:=h6;try simp at h6_
    have F3:=A3 F1 h6 h6_;try simp [F3]
    and_intros <;> first | exact GK g | apply r | omega | (simp [maxLen,F3] <;> omega)
    refine WK [(0,AV.bool false)] [] 1 (by simp [F3]) (by simp [F3]) ?_;simp only [Option.some.injEq] at hF;subst hF;refine AW.ret (hQ _ _ _ ?_ (AaB ?_)).1
    ·simp [Try.f8,F3]
    ·simp [F3]
  ·replace hF:=AaG h4 hF;have h4_:=Aa7 h4;have h4__:=Aa9 h4;have F4:=A6 h3_ h3__ h3q h4 h4_ h4__;try simp [F4]
   and_intros <;> first | exact GK g | apply r | omega | (simp [maxLen,F4] <;> omega)
   refine WK [(0,AV.bool false)] [] 1 (by simp [F4]) (by simp [F4]) ?_;simp only [Option.some.injEq] at hF;subst hF;refine AW.ret (hQ _ _ _ ?_ (AaB ?_)).1
   ·simp [Try.f8,F4]
   ·simp [F4]
 ·replace hF:=AaG h3 hF;have h3_:=Aa7 h3;have h3__:=Aa9 h3;have F5:=A3 h3 h3_ h3__;try simp [F5]
  and_intros <;> first | exact GK g | apply r | omega | (simp [maxLen,F5] <;> omega)
  refine WK [(0,AV.bool false)] [] 1 (by simp [F5]) (by simp [F5]) ?_;simp only [Option.some.injEq] at hF;subst hF;refine AW.ret (hQ _ _ _ ?_ (AaB ?_)).1
  ·simp [Try.f8,F5]
  ·simp [F5]
theorem AgR (k : Nat) (v0 : (List Int)) (v1 : (List Int)) (v2 : Int) (hF : Aeg k v0=some (v1,v2)) :
 Aa0 Try.prog 24 [AV.lst false false (List.map (AV.int .i64) v0)] [] (AV.ptr 0 0) [some (.cells [AV.lst false false (List.map (AV.int .i64) v1),AV.int .i64 v2])]:=by
 unfold Aeg at hF;refine EN Try.func24 ?_;intro c0 w0 Q h0 hQ
 refine WK [(0,Lz v0)] [] 0 (by simp) (by simp) ?_;refine SQ [] [none] fun _ _ g r=>?_;try simp
 and_intros <;> first | exact GK g | apply r | omega | (simp [maxLen] <;> omega)
 refine WK [(0,Lz v0)] [] 0 (by simp) (by simp) ?_;refine SQ [] [none,none,none,none] fun _ _ g r=>?_;try simp
 and_intros <;> first | exact GK g | apply r | omega | (simp [maxLen] <;> omega)
 refine WK [(2,AV.ptr 0 0)] [(0,.cells [Lz v0,Iz 0])] 1 (by simp) (by simp) ?_;simp only [Option.some.injEq,Prod.mk.injEq] at hF;obtain ⟨e0,e1⟩:=hF;subst e0 e1;refine AW.ret (hQ _ _ _ ?_ (AaB ?_)).1
 ·simp [Try.f24]
 ·simp
theorem AgQ (k : Nat) (v0 : (List Int)) (v1 : (List Int)) (v2 : Int) (hF : Adn k v0=some (v1,v2)) :
 Aa0 Try.prog 9 [AV.lst false false (List.map (AV.int .i64) v0)] [] (AV.ptr 0 0) [some (.cells [AV.lst false false (List.map (AV.int .i64) v1),AV.int .i64 v2])]:=by
 unfold Adn at hF;refine EN Try.func9 ?_;intro c0 w0 Q h0 hQ
 refine WK [(0,Lz v0)] [] 0 (by simp) (by simp) ?_;refine SQ [] [none] fun _ _ g r=>?_;try simp
 and_intros <;> first | exact GK g | apply r | omega | (simp [maxLen] <;> omega)
 refine WK [(0,Lz v0)] [] 0 (by simp) (by simp) ?_;refine SQ [] [none,none,none] fun _ _ g r=>?_;try simp
 and_intros
 try any_goals first | omega | (simp [maxLen] <;> omega)
 obtain ⟨v3,v4,h1,hF⟩:=Aak hF;refine AC (AgR k _ _ _ h1) (.cons (.same (by simp)) .nil) ?_;try simp
 and_intros <;> first | exact GK g | apply r | omega | (simp [maxLen] <;> omega)
 refine WK [(2,AV.ptr 0 0)] [(0,.cells [Lz v3,Iz v4])] 1 (by simp) (by simp) ?_;simp only [Option.some.injEq,Prod.mk.injEq] at hF;obtain ⟨e0,e1⟩:=hF;subst e0 e1;refine AW.ret (hQ _ _ _ ?_ (AaB ?_)).1
 ·simp [Try.f9]
 ·simp
theorem AhM (k : Nat) (v0 : Int) (v1 : Int) (v2 : Int) (hF : Abj k v0 v1=some v2) :
 Aa0 Try.prog 30 [AV.int .i64 v0,AV.int .i64 v1] [] (AV.int .i64 v2) []:=by
 unfold Abj at hF;refine EN Try.func30 ?_;intro c0 w0 Q h0 hQ
 refine WK [(0,Iz v0),(1,Iz v1)] [] 0 (by simp) (by simp) ?_;refine SQ [] [none] fun _ _ g r=>?_;try simp
 and_intros <;> first | exact GK g | apply r | omega | (simp [maxLen] <;> omega)
 refine WK [(0,Iz v0),(1,Iz v1)] [] 0 (by simp) (by simp) ?_;refine AW.seq fun K17 hK17=>?_;refine SQ [] [none,none] fun _ _ g r=>?_;try simp
 and_intros <;> first | exact GK g | apply r | omega | (simp [maxLen] <;> omega)
 refine WK [(0,Iz v0),(1,Iz v1),(6,AV.bool (decide (v1<1)))] [] 0 (by simp) (by simp) ?_;by_cases h1 : v1<1
 ·replace hF:=AaF h1 hF;have h1_:=h1;try simp at h1_
  refine CT (by simp [h1,h1_] <;> omega) ?_;refine SQ [] [none] fun _ _ g r=>?_;try simp [h1,h1_]
  and_intros <;> first | exact GK g | apply r | omega | (simp [h1,h1_,maxLen] <;> omega)
  refine WK [(4,Iz 0)] [] 0 (by simp [h1,h1_]) (by simp [h1,h1_]) ?_;simp only [Option.some.injEq] at hF;subst hF;refine AW.ret (hQ _ _ _ ?_ (AaB ?_)).1
  ·simp [Try.f30,h1,h1_]
  ·simp [h1,h1_]
 ·replace hF:=AaG h1 hF;have h1_:=h1;try simp at h1_
  refine CF (by simp [h1,h1_] <;> omega) ?_;refine AW.skip ?_;refine hK17 _ _ _ ?_;refine SQ [] [none,none,none,none] fun _ _ g r=>?_;obtain ⟨h2,hF⟩:=AbH hF;have h2_:=h2;try simp at h2_
  have F1:=A4 h1 h1_ h2 h2_;try simp [F1]
  and_intros <;> first | exact GK g | apply r | omega | (simp [maxLen,F1] <;> omega)
  refine WK [(0,Iz (Int.tmod v0 v1)),(1,Iz v1)] [] 0 (by simp [F1]) (by simp [F1]) ?_;refine AW.midF (α:=Int) (fun v3=>Abj.J1 k v3=some v2) (fun v3=>[(0,Iz v3)]) (fun v3=>[]) 0 (fun K24 hK24=>?_) ?_
  ·refine SQ [] [none,none] fun _ _ g r=>?_;try simp [F1]
   and_intros <;> first | exact GK g | apply r | omega | (simp [maxLen,F1] <;> omega)
   refine WK [(0,Iz (Int.tmod v0 v1)),(1,Iz v1),(11,AV.bool (decide (Int.tmod v0 v1<0)))] [] 0 (by simp [F1]) (by simp [F1]) ?_;by_cases h3 : Int.tmod v0 v1<0
   ·replace hF:=AaF h3 hF;have h3_:=h3;try simp at h3_
    have F2:=A3 F1 h3 h3_;refine CT (by simp [F2] <;> omega) ?_;refine RG [] [none,none,none,none] fun _ _ g r=>?_;try simp [F2]
    and_intros <;> first | exact GK g | apply r | omega | (simp [maxLen,F2] <;> omega)
    refine hK24 _ _ _ ?_;exact JN (IntKind.wrap .i64 (Int.tmod v0 v1+v1)) hF (by simp [F2]) (by simp [F2])
   ·replace hF:=AaG h3 hF;have h3_:=h3;try simp at h3_
    have F3:=A3 F1 h3 h3_;refine CF (by simp [F3] <;> omega) ?_;refine AW.skip ?_;refine hK24 _ _ _ ?_;exact JN (Int.tmod v0 v1) hF (by simp [F3]) (by simp [F3])
  ·rintro v3 hF
   try dsimp only at hF
   unfold Abj.J1 at hF;refine SQ [] [none,none] fun _ _ g r=>?_;try simp [F1]
   and_intros <;> first | exact GK g | apply r | omega | (simp [maxLen,F1] <;> omega)
   refine WK [(4,Iz v3)] [] 0 (by simp [F1]) (by simp [F1]) ?_;simp only [Option.some.injEq] at hF;subst hF;refine AW.ret (hQ _ _ _ ?_ (AaB ?_)).1
   ·simp [Try.f30,F1]
   ·simp [F1]
theorem Aax (k : Nat) (v0 : (List Int)) (v1 : Int) (v2 : Int) (v3 : Int) (v4 : Int) (hF : Aan k v0 v1 v2=some (v3,v4)) :
 Aa0 Try.prog 26 [AV.ptr 0 0,AV.int .i64 v2] [.cells [AV.lst false false (List.map (AV.int .i64) v0),AV.int .i64 v1]] (AV.int .i64 v3) [some (.cells [AV.lst false false (List.map (AV.int .i64) v0),AV.int .i64 v4])]:=by
 unfold Aan at hF;refine EN Try.func26 ?_;intro c0 w0 Q h0 hQ
 refine WK [(0,AV.ptr 0 0),(1,Iz v2)] [(0,.cells [Lz v0,Iz v1])] 1 (by simp) (by simp) ?_;refine SQ [] [none] fun _ _ g r=>?_;try simp
 and_intros <;> first | exact GK g | apply r | omega | (simp [maxLen] <;> omega)
 refine WK [(0,AV.ptr 0 0),(1,Iz v2)] [(0,.cells [Lz v0,Iz v1])] 1 (by simp) (by simp) ?_;refine AW.seq fun K12 hK12=>?_;refine SQ [] [none,none,none,none,none,none,none,none,none,none] fun _ _ g r=>?_;try simp
 and_intros <;> first | exact GK g | apply r | omega | (simp [maxLen] <;> omega)
 refine WK [(0,AV.ptr 0 0),(1,Iz v2),(14,AV.bool (decide ((v0.length : Int)≤v1)))] [(0,.cells [Lz v0,Iz v1])] 1 (by simp) (by simp) ?_;by_cases h1 : (v0.length : Int)≤v1
 ·replace hF:=AaF h1 hF;have h1_:=h1;try simp at h1_
  refine CT (by simp [h1,h1_] <;> omega) ?_;refine SQ [] [none] fun _ _ g r=>?_;try simp [h1,h1_]
  and_intros <;> first | exact GK g | apply r | omega | (simp [h1,h1_,maxLen] <;> omega)
  refine WK [(4,Iz 0)] [(0,.cells [Lz v0,Iz v1])] 1 (by simp [h1,h1_]) (by simp [h1,h1_]) ?_;simp only [Option.some.injEq,Prod.mk.injEq] at hF;obtain ⟨e0,e1⟩:=hF;subst e0 e1;refine AW.ret (hQ _ _ _ ?_ (AaB ?_)).1
  ·simp [Try.f26,h1,h1_]
  ·simp [h1,h1_]
 ·replace hF:=AaG h1 hF;have h1_:=h1;try simp at h1_
  refine CF (by simp [h1,h1_] <;> omega) ?_;refine AW.skip ?_;refine hK12 _ _ _ ?_;refine SQ [] [none,none,none,none,none,none,none,none] fun _ _ g r=>?_;try simp [h1,h1_]
  and_intros <;> first | exact GK g | apply r | omega | (simp [h1,h1_,maxLen] <;> omega)
  refine WK [(0,AV.ptr 0 0),(1,Iz v2)] [(0,.cells [Lz v0,Iz (IntKind.wrap .i64 (v1+1))])] 1 (by simp [h1,h1_]) (by simp [h1,h1_]) ?_;refine SQ [] [none,none,none,none,none,none,none,none,none,none,none,none,none,none] fun _ _ g r=>?_;obtain ⟨v5,h2,h3,h4,hF⟩:=Aab hF;have h4_:=Aaw h4;try simp at h4_
  have h3_:=h3;try simp at h3_
  have F1:=A7 h1 h1_ h2 h3 h4 h4_ h3_;try simp [F1]
  and_intros
  try any_goals first | omega | (simp [maxLen,F1] <;> omega)
  obtain ⟨v6,h5,hF⟩:=AaD hF;refine AC (AhM k _ _ _ h5) (.cons (.same (by simp [F1])) (.cons (.same (by simp [F1])) .nil)) ?_;try simp [F1]
  and_intros <;> first | exact GK g | apply r | omega | (simp [maxLen,F1] <;> omega)
  refine WK [(4,Iz v6)] [(0,.cells [Lz v0,Iz (IntKind.wrap .i64 (v1+1))])] 1 (by simp [F1]) (by simp [F1]) ?_;simp only [Option.some.injEq,Prod.mk.injEq] at hF;obtain ⟨e0,e1⟩:=hF;subst e0 e1;refine AW.ret (hQ _ _ _ ?_ (AaB ?_)).1
  ·simp [Try.f26,F1]
  ·simp [F1]
theorem Aar (k : Nat) (v0 : (List Int)) (v1 : Int) (v2 : (List Int)) (v3 : Int) (v4 : Int) (hF : Aal k v0 v1 v2=some (v3,v4)) :
 Aa0 Try.prog 28 [AV.ptr 0 0,AV.lst false false (List.map (AV.int .i64) v2)] [.cells [AV.lst false false (List.map (AV.int .i64) v0),AV.int .i64 v1]] (AV.int .i64 v3) [some (.cells [AV.lst false false (List.map (AV.int .i64) v0),AV.int .i64 v4])]:=by
 unfold Aal at hF;refine EN Try.func28 ?_;intro c0 w0 Q h0 hQ
 refine WK [(0,AV.ptr 0 0),(1,Lz v2)] [(0,.cells [Lz v0,Iz v1])] 1 (by simp) (by simp) ?_;refine SQ [] [none] fun _ _ g r=>?_;try simp
 and_intros <;> first | exact GK g | apply r | omega | (simp [maxLen] <;> omega)
 refine WK [(0,AV.ptr 0 0),(1,Lz v2)] [(0,.cells [Lz v0,Iz v1])] 1 (by simp) (by simp) ?_;refine SQ [] [none,none,none,none,none,none,none,none] fun _ _ g r=>?_;try simp
 and_intros
 try any_goals first | omega | (simp [maxLen] <;> omega)
 obtain ⟨v5,v6,h1,hF⟩:=Aak hF;refine Aa5 (Aax k _ _ _ _ _ h1) (by simp) [0] [] [0] rfl (.cons (.same (by simp)) (.cons (.same (by simp)) .nil)) (by simp) (by decide) (by simp) (by simp) (.inl rfl) (by simp) (by simp) ?_;obtain ⟨v7,h2,h3,h4,hF⟩:=Aab hF;have h4_:=Aaw h4;try simp at h4_
 have h3_:=h3;try simp at h3_
 have F1:=A5 h2 h3 h4 h4_ h3_;try simp [F1]
 and_intros <;> first | exact GK g | apply r | omega | (simp [maxLen,F1] <;> omega)
 refine WK [(4,Iz v7)] [(0,.cells [Lz v0,Iz v6])] 1 (by simp [F1]) (by simp [F1]) ?_;simp only [Option.some.injEq,Prod.mk.injEq] at hF;obtain ⟨e0,e1⟩:=hF;subst e0 e1;refine AW.ret (hQ _ _ _ ?_ (AaB ?_)).1
 ·simp [Try.f28,F1]
 ·simp [F1]
theorem AeS (k : Nat) (v0 : (List Int)) (v1 : Int) (v2 : Int) (v3 : Bool) (v4 : Int) (hF : Abk k v0 v1 v2=some (v3,v4)) :
 Aa0 Try.prog 34 [AV.ptr 0 0,AV.int .i64 v2] [.cells [AV.lst false false (List.map (AV.int .i64) v0),AV.int .i64 v1]] (AV.bool v3) [some (.cells [AV.lst false false (List.map (AV.int .i64) v0),AV.int .i64 v4])]:=by
 unfold Abk at hF;refine EN Try.func34 ?_;intro c0 w0 Q h0 hQ
 refine WK [(0,AV.ptr 0 0),(1,Iz v2)] [(0,.cells [Lz v0,Iz v1])] 1 (by simp) (by simp) ?_;refine SQ [] [none] fun _ _ g r=>?_;try simp
 and_intros <;> first | exact GK g | apply r | omega | (simp [maxLen] <;> omega)
 refine WK [(0,AV.ptr 0 0),(1,Iz v2)] [(0,.cells [Lz v0,Iz v1])] 1 (by simp) (by simp) ?_;refine SQ [] [none,none,none,none,none,none,none] fun _ _ g r=>?_;try simp
 and_intros
 try any_goals first | omega | (simp [maxLen] <;> omega)
 obtain ⟨v5,v6,h1,hF⟩:=Aak hF;refine Aa5 (Aax k _ _ _ _ _ h1) (by simp) [0] [] [0] rfl (.cons (.same (by simp)) (.cons (.same (by simp)) .nil)) (by simp) (by decide) (by simp) (by simp) (.inl rfl) (by simp) (by simp) ?_;try simp
 and_intros <;> first | exact GK g | apply r | omega | (simp [maxLen] <;> omega)
 refine WK [(4,AV.bool (v5==(IntKind.wrap .i64 (v2-1))))] [(0,.cells [Lz v0,Iz v6])] 1 (by simp) (by simp) ?_;simp only [Option.some.injEq,Prod.mk.injEq] at hF;obtain ⟨e0,e1⟩:=hF;subst e0 e1;refine AW.ret (hQ _ _ _ ?_ (AaB ?_)).1
 ·simp [Try.f34]
 ·simp
abbrev AbF  : AaQ := .cells [AV.lst true true (List.map (AV.int .i64) ([] : List Int)),AV.lst true true (List.map (AV.int .i64) ([] : List Int)),AV.lst true true (List.map (AV.int .i64) ([] : List Int)),Iz 0,Iz 0,Iz 0,Iz 0]
theorem Afj (k : Nat) (v0 : (List Int)) (v1 : Int) (v2 : (List Int)) (v3 : (List Int)) (v4 : (List Int)) (v5 : Int) (v6 : Int) (v7 : Int) (v8 : Int) (v9 : Int) (hF : Aa2 k v0 v1=some (v2,v3,v4,v5,v6,v7,v8,v9)) :
 Aa0 Try.prog 10 [AV.ptr 0 0] [.cells [AV.lst false false (List.map (AV.int .i64) v0),AV.int .i64 v1]] (AV.agg [AV.lst false false (List.map (AV.int .i64) v2),AV.lst false false (List.map (AV.int .i64) v3),AV.slc 1 0 1 v4.length false,AV.int .i64 v5,AV.int .i64 v6,AV.int .i64 v7,AV.int .i64 v8]) [some (.cells [AV.lst false false (List.map (AV.int .i64) v0),AV.int .i64 v9]),some (Ci v4)]:=by
 unfold Aa2 at hF;refine EN Try.func10 ?_;intro c0 w0 Q h0 hQ
 refine WK [(0,AV.ptr 0 0)] [(0,.cells [Lz v0,Iz v1])] 1 (by simp) (by simp) ?_;refine SQ [] [none] fun _ _ g r=>?_;try simp
 and_intros <;> first | exact GK g | apply r | omega | (simp [maxLen] <;> omega)
 refine WK [(0,AV.ptr 0 0),(2,AV.ptr 1 0)] [(0,.cells [Lz v0,Iz v1]),(1,AbF )] 2 (by simp) (by simp) ?_;refine SQ [] [none,none,none,none,none,none,none,none,none,none,none,none] fun _ _ g r=>?_;try simp
 and_intros
 try any_goals first | omega | (simp [maxLen] <;> omega)
 obtain ⟨v10,v11,h1,hF⟩:=Aak hF;refine Aa5 (Aar k _ _ _ _ _ h1) (by simp) [0] [] [0] rfl (.cons (.same (by simp)) (.cons (Coe.fl (by simp)) .nil)) (by simp) (by decide) (by simp) (by simp) (.inl rfl) (by simp) (by simp) ?_;try simp
 and_intros
 try any_goals first | omega | (simp [maxLen] <;> omega)
 obtain ⟨v12,v13,h2,hF⟩:=Aak hF;refine Aa5 (Aar k _ _ _ _ _ h2) (by simp) [0] [] [0] rfl (.cons (.same (by simp)) (.cons (Coe.fl (by simp)) .nil)) (by simp) (by decide) (by simp) (by simp) (.inl rfl) (by simp) (by simp) ?_;try simp
 and_intros
 try any_goals first | omega | (simp [maxLen] <;> omega)
 obtain ⟨v14,v15,h3,hF⟩:=Aak hF;refine Aa5 (Aar k _ _ _ _ _ h3) (by simp) [0] [] [0] rfl (.cons (.same (by simp)) (.cons (Coe.fl (by simp)) .nil)) (by simp) (by decide) (by simp) (by simp) (.inl rfl) (by simp) (by simp) ?_;try simp
 and_intros <;> first | exact GK g | apply r | omega | (simp [maxLen] <;> omega)
 refine WK [(0,AV.ptr 0 0),(2,AV.ptr 1 0),(3,AV.ptr 2 0)] [(0,.cells [Lz v0,Iz v15]),(1,AbF ),(2,.cells [AV.lst true true (List.map (AV.int .i64) ([] : List Int)),AV.lst true true (List.map (AV.int .i64) ([] : List Int)),AV.lst true true (List.map (AV.int .i64) ([] : List Int)),Iz 0,Iz v10,Iz v12,Iz v14])] 3 (by simp) (by simp) ?_;refine SQ [] [none,none,none,none,none,none,none] fun _ _ g r=>?_;try simp
 and_intros
 try any_goals first | omega | (simp [maxLen] <;> omega)
 obtain ⟨v16,v17,h4,hF⟩:=Aak hF;refine Aa5 (Aax k _ _ _ _ _ h4) (by simp) [0] [] [0] rfl (.cons (.same (by simp)) (.cons (.same (by simp)) .nil)) (by simp) (by decide) (by simp) (by simp) (.inl rfl) (by simp) (by simp) ?_;obtain ⟨⟨h5,h6⟩,hF⟩:=AbH hF;have h5_:=h5;try simp at h5_
 have h6_:=h6;try simp at h6_
 have F1:=A4 h5 h6 h5_ h6_;try simp [F1]
 and_intros <;> first | exact GK g | apply r | omega | (simp [maxLen,F1] <;> omega)
 refine WK [(0,AV.ptr 0 0),(2,AV.ptr 1 0),(3,AV.ptr 2 0)] [(0,.cells [Lz v0,Iz v17]),(1,AbF ),(2,.cells [Lz (([0,1,2,3,4,5,6] : List Int).take (IntKind.wrap .i64 (2+v16)).toNat),AV.lst true true (List.map (AV.int .i64) ([] : List Int)),AV.lst true true (List.map (AV.int .i64) ([] : List Int)),Iz 0,Iz v10,Iz v12,Iz v14])] 3 (by simp [F1]) (by simp [F1]) ?_;refine SQ [29] [none,none,none,none,none,none,none,none,none,none,none,none,none,none,none,none] fun _ _ g r=>?_;try simp [F1]
 and_intros
 try any_goals first | omega | (simp [maxLen,F1] <;> omega)
 obtain ⟨v18,v19,h7,hF⟩:=Aak hF;refine Aa5 (Aar k _ _ _ _ _ h7) (by simp) [0] [] [0] rfl (.cons (.same (by simp [F1])) (.cons (Coe.fl (by simp [F1])) .nil)) (by simp [F1]) (by decide) (by simp) (by simp) (.inl rfl) (by simp) (by simp) ?_;try simp [F1]
 and_intros
 try any_goals first | omega | (simp [maxLen,F1] <;> omega)
 obtain ⟨v20,v21,h8,hF⟩:=Aak hF;refine Aa5 (Aar k _ _ _ _ _ h8) (by simp) [0] [] [0] rfl (.cons (.same (by simp [F1])) (.cons (Coe.fl (by simp [F1])) .nil)) (by simp [F1]) (by decide) (by simp) (by simp) (.inl rfl) (by simp) (by simp) ?_;try simp [F1]
 and_intros
 try any_goals first | omega | (simp [maxLen,F1] <;> omega)
 obtain ⟨v22,v23,h9,hF⟩:=Aak hF;refine Aa5 (Aar k _ _ _ _ _ h9) (by simp) [0] [] [0] rfl (.cons (.same (by simp [F1])) (.cons (Coe.fl (by simp [F1])) .nil)) (by simp [F1]) (by decide) (by simp) (by simp) (.inl rfl) (by simp) (by simp) ?_;try simp [F1]
 and_intros <;> first | exact GK g | apply r | omega | (simp [maxLen,F1] <;> omega)
 refine WK [(0,AV.ptr 0 0),(2,AV.ptr 1 0),(3,AV.ptr 2 0)] [(0,.cells [Lz v0,Iz v23]),(1,AbF ),(2,.cells [Lz (([0,1,2,3,4,5,6] : List Int).take (IntKind.wrap .i64 (2+v16)).toNat),AV.lst false true (List.map (AV.int .i64) ([0] : List Int)),AV.slc 3 0 1 (([IntKind.wrap .i64 (1+v18),IntKind.wrap .i64 (1+v20)] : List Int).length) true,Iz v22,Iz v10,Iz v12,Iz v14]),(3,Ci ([IntKind.wrap .i64 (1+v18),IntKind.wrap .i64 (1+v20)] : List Int))] 4 (by simp [F1]) (by simp [F1]) ?_;refine AW.midF (α:=((List Int)×Int)) (fun (v24,v25)=>Aa2.J1 k v10 v12 v14 v16 v18 v20 v22 v24 v25=some (v2,v3,v4,v5,v6,v7,v8,v9)) (fun (v24,v25)=>[(2,AV.ptr 1 0),(3,AV.ptr 2 0)]) (fun (v24,v25)=>[(0,.cells [Lz v0,Iz v25]),(1,AbF ),(2,.cells [Lz (([0,1,2,3,4,5,6] : List Int).take (IntKind.wrap .i64 (2+v16)).toNat),Lz v24,AV.slc 3 0 1 (([IntKind.wrap .i64 (1+v18),IntKind.wrap .i64 (1+v20)] : List Int).length) true,Iz v22,Iz v10,Iz v12,Iz v14]),(3,Ci ([IntKind.wrap .i64 (1+v18),IntKind.wrap .i64 (1+v20)] : List Int))]) 4 (fun K20 hK20=>?_) ?_
 ·refine SQ [] [none,none] fun _ _ g r=>?_;try simp [F1]
  and_intros
  try any_goals first | omega | (simp [maxLen,F1] <;> omega)
  obtain ⟨v29,v30,h23,hF⟩:=Aak hF;refine Aa5 (AeS k _ _ _ _ _ h23) (by simp) [0] [] [0] rfl (.cons (.same (by simp [F1])) (.cons (.same (by simp [F1])) .nil)) (by simp [F1]) (by decide) (by simp) (by simp) (.inl rfl) (by simp) (by simp) ?_;try simp [F1]
  and_intros <;> first | exact GK g | apply r | omega | (simp [maxLen,F1] <;> omega)
  refine WK [(2,AV.ptr 1 0),(3,AV.ptr 2 0),(36,AV.bool v29)] [(0,.cells [Lz v0,Iz v30]),(1,AbF ),(2,.cells [Lz (([0,1,2,3,4,5,6] : List Int).take (IntKind.wrap .i64 (2+v16)).toNat),AV.lst false true (List.map (AV.int .i64) ([0] : List Int)),AV.slc 3 0 1 (([IntKind.wrap .i64 (1+v18),IntKind.wrap .i64 (1+v20)] : List Int).length) true,Iz v22,Iz v10,Iz v12,Iz v14]),(3,Ci ([IntKind.wrap .i64 (1+v18),IntKind.wrap .i64 (1+v20)] : List Int))] 4 (by simp [F1]) (by simp [F1]) ?_;by_cases h24 : v29=true
  ·replace hF:=AaF h24 hF;have h24_:=h24;try simp at h24_
   have F2:=A3 F1 h24 h24_;refine CT (by simp [F2] <;> omega) ?_;refine RG [] [none,none,none,none] fun _ _ g r=>?_;try simp [F2]
   and_intros <;> first | exact GK g | apply r | omega | (simp [maxLen,F2] <;> omega)
   refine hK20 _ _ _ ?_;refine Can.weak [(2,AV.ptr 1 0),(3,AV.ptr 2 0)] [(0,.cells [Lz v0,Iz v30]),(1,AbF ),(2,.cells [Lz (([0,1,2,3,4,5,6] : List Int).take (IntKind.wrap .i64 (2+v16)).toNat),AV.lst false true (List.map (AV.int .i64) ([0,1] : List Int)),AV.slc 3 0 1 (([IntKind.wrap .i64 (1+v18),IntKind.wrap .i64 (1+v20)] : List Int).length) true,Iz v22,Iz v10,Iz v12,Iz v14]),(3,Ci ([IntKind.wrap .i64 (1+v18),IntKind.wrap .i64 (1+v20)] : List Int))] 4 (by simp [F2]) (by simp [F2]) (by simp) ?_;refine Can.flg [] [(2,.cells [Lz (([0,1,2,3,4,5,6] : List Int).take (IntKind.wrap .i64 (2+v16)).toNat),Lz ([0,1] : List Int),AV.slc 3 0 1 (([IntKind.wrap .i64 (1+v18),IntKind.wrap .i64 (1+v20)] : List Int).length) true,Iz v22,Iz v10,Iz v12,Iz v14])] trivial ⟨⟨AaQ.cells [Lz (([0,1,2,3,4,5,6] : List Int).take (IntKind.wrap .i64 (2+v16)).toNat),AV.lst false true (List.map (AV.int .i64) ([0,1] : List Int)),AV.slc 3 0 1 (([IntKind.wrap .i64 (1+v18),IntKind.wrap .i64 (1+v20)] : List Int).length) true,Iz v22,Iz v10,Iz v12,Iz v14],by simp [F2],(.mk (.cons (.same _) (.cons (.lst (by simp)) (.cons (.same _) (.cons (.same _) (.cons (.same _) (.cons (.same _) (.cons (.same _) .nil))))))))⟩,trivial⟩ (by simp) ?_;exact JN ((([0,1] : List Int),v30)) hF (by simp [F2]) (by simp [F2])
  ·replace hF:=AaG h24 hF;have h24_:=h24;try simp at h24_
   have F3:=A3 F1 h24 h24_;refine CF (by simp [F3] <;> omega) ?_;refine AW.skip ?_;refine hK20 _ _ _ ?_;refine Can.flg [] [(2,.cells [Lz (([0,1,2,3,4,5,6] : List Int).take (IntKind.wrap .i64 (2+v16)).toNat),Lz ([0] : List Int),AV.slc 3 0 1 (([IntKind.wrap .i64 (1+v18),IntKind.wrap .i64 (1+v20)] : List Int).length) true,Iz v22,Iz v10,Iz v12,Iz v14])] trivial ⟨⟨AaQ.cells [Lz (([0,1,2,3,4,5,6] : List Int).take (IntKind.wrap .i64 (2+v16)).toNat),AV.lst false true (List.map (AV.int .i64) ([0] : List Int)),AV.slc 3 0 1 (([IntKind.wrap .i64 (1+v18),IntKind.wrap .i64 (1+v20)] : List Int).length) true,Iz v22,Iz v10,Iz v12,Iz v14],by simp [F3],(.mk (.cons (.same _) (.cons (.lst (by simp)) (.cons (.same _) (.cons (.same _) (.cons (.same _) (.cons (.same _) (.cons (.same _) .nil))))))))⟩,trivial⟩ (by simp) ?_;exact JN ((([0] : List Int),v30)) hF (by simp [F3]) (by simp [F3])
 ·rintro ⟨v24,v25⟩ hF
  try dsimp only at hF
  unfold Aa2.J1 at hF;refine SQ [] [none,none,none,none,none,none,none,none,none,none,none,none,none,none,none,none] fun _ _ g r=>?_;obtain ⟨⟨h10,h11⟩,hF⟩:=AbH hF;have h11_:=Ac8 h11;obtain ⟨v26,h12,h13,h14,hF⟩:=Aab hF;have h14_:=Aaw h14;try simp at h14_
  have h13_:=h13;try simp at h13_
  have h14z:=AiE h14;have h14__:=Aaw (Ah9 ((AV.int .i64)) h14);try simp at h14__
  obtain ⟨⟨h15,h16⟩,hF⟩:=AbH hF;have h16_:=Ac8 h16;obtain ⟨v27,h17,h18,h19,hF⟩:=Aab hF;have h19_:=Aaw h19;try simp at h19_
  have h18_:=h18;try simp at h18_
  have h19__:=Aaw (Ah9 ((AV.int .i64)) h19);try simp at h19__
  obtain ⟨v28,h20,hF⟩:=AiC hF;have h20_:=h20;try simp at h20_
  obtain ⟨⟨h21,h22⟩,hF⟩:=AbH hF;have h22_:=Ac8 h22;have F4:=A9 F1 h10 h11 h11_ h12 h13 h14 h14_ (A9 h13_ h14z h14__ h15 h16 h16_ h17 h18 (A9 h19 h19_ h18_ h19__ h20 h20_ h21 h22 h22_));try simp [F4]
  and_intros <;> first | exact GK g | apply r | omega | (simp [maxLen,F4] <;> omega)
  refine WK [(2,AV.ptr 1 0),(3,AV.ptr 2 0)] [(0,.cells [Lz v0,Iz v25]),(1,AbF ),(2,.cells [Lz (([0,1,2,3,4,5,6] : List Int).take (IntKind.wrap .i64 (2+v16)).toNat),Lz v24,AV.slc 3 0 1 ((([IntKind.wrap .i64 (1+v18),IntKind.wrap .i64 (1+v20)] : List Int).set (1 : Int).toNat v28).length) true,Iz v22,Iz v10,Iz v12,Iz v14]),(3,Ci (([IntKind.wrap .i64 (1+v18),IntKind.wrap .i64 (1+v20)] : List Int).set (1 : Int).toNat v28))] 4 (by simp [F4]) (by simp [F4]) ?_;refine SQ [] [none,none] fun _ _ g r=>?_;try simp [F4]
  and_intros <;> first | exact GK g | apply r | omega | (simp [maxLen,F4] <;> omega)
  refine WK [(2,AV.ptr 1 0)] [(0,.cells [Lz v0,Iz v25]),(1,.cells [Lz (([0,1,2,3,4,5,6] : List Int).take (IntKind.wrap .i64 (2+v16)).toNat),Lz v24,AV.slc 3 0 1 ((([IntKind.wrap .i64 (1+v18),IntKind.wrap .i64 (1+v20)] : List Int).set (1 : Int).toNat v28).length) true,Iz v22,Iz v10,Iz v12,Iz v14]),(3,Ci (([IntKind.wrap .i64 (1+v18),IntKind.wrap .i64 (1+v20)] : List Int).set (1 : Int).toNat v28))] 4 (by simp [F4]) (by simp [F4]) ?_;refine AW.rnm (m:=1) h0 [(0,0),(1,3),(2,1)] [(2,AV.ptr 2 0)] [(0,.cells [Lz v0,Iz v25]),(1,Ci (([IntKind.wrap .i64 (1+v18),IntKind.wrap .i64 (1+v20)] : List Int).set (1 : Int).toNat v28)),(2,.cells [Lz (([0,1,2,3,4,5,6] : List Int).take (IntKind.wrap .i64 (2+v16)).toNat),Lz v24,AV.slc 1 0 1 ((([IntKind.wrap .i64 (1+v18),IntKind.wrap .i64 (1+v20)] : List Int).set (1 : Int).toNat v28).length) true,Iz v22,Iz v10,Iz v12,Iz v14])] 3 (by decide) (by decide) (by decide) rfl (by simp [F4]) (by simp [F4]) ?_;refine AW.flg [] [(2,.cells [Lz (([0,1,2,3,4,5,6] : List Int).take (IntKind.wrap .i64 (2+v16)).toNat),Lz v24,AV.slc 1 0 1 ((([IntKind.wrap .i64 (1+v18),IntKind.wrap .i64 (1+v20)] : List Int).set (1 : Int).toNat v28).length) false,Iz v22,Iz v10,Iz v12,Iz v14])] trivial ⟨⟨AaQ.cells [Lz (([0,1,2,3,4,5,6] : List Int).take (IntKind.wrap .i64 (2+v16)).toNat),Lz v24,AV.slc 1 0 1 ((([IntKind.wrap .i64 (1+v18),IntKind.wrap .i64 (1+v20)] : List Int).set (1 : Int).toNat v28).length) true,Iz v22,Iz v10,Iz v12,Iz v14],by simp [F4],(.mk (.cons (.same _) (.cons (.same _) (.cons .slc (.cons (.same _) (.cons (.same _) (.cons (.same _) (.cons (.same _) .nil))))))))⟩,trivial⟩ (by simp) ?_;simp only [Option.some.injEq,Prod.mk.injEq] at hF;obtain ⟨e0,e1,e2,e3,e4,e5,e6,e7⟩:=hF;subst e0 e1 e2 e3 e4 e5 e6 e7;refine AW.ret (hQ _ _ _ ?_ (AaB ?_)).1
  ·simp [Try.f10,F4]
  ·simp [F4]
abbrev Aae  : AaQ := .cells [AV.lst true true (List.map (AV.int .i64) ([] : List Int)),AV.lst true true (List.map (AV.int .i64) ([] : List Int)),AV.lst true true (List.map (AV.int .i64) ([] : List Int)),Iz 0,Iz 0,Iz 0,Iz 0]
theorem Aey (k : Nat) (v0 : (List Int)) (v1 : Int) (v2 : (List Int)) (v3 : (List Int)) (v4 : (List Int)) (v5 : Int) (v6 : Int) (v7 : Int) (v8 : Int) (v9 : (List Int)) (v10 : (List Int)) (v11 : (List Int)) (v12 : Int) (v13 : Int) (v14 : Int) (v15 : Int) (v16 : Int) (hF : Aap k v0 v1 v2 v3 v4 v5 v6 v7 v8=some (v9,v10,v11,v12,v13,v14,v15,v16)) :
 Aa0 Try.prog 11 [AV.ptr 0 0,AV.agg [AV.lst false false (List.map (AV.int .i64) v2),AV.lst false false (List.map (AV.int .i64) v3),AV.lst false false (List.map (AV.int .i64) v4),AV.int .i64 v5,AV.int .i64 v6,AV.int .i64 v7,AV.int .i64 v8]] [.cells [AV.lst false false (List.map (AV.int .i64) v0),AV.int .i64 v1]] (AV.agg [AV.lst false false (List.map (AV.int .i64) v9),AV.lst false false (List.map (AV.int .i64) v10),AV.lst false false (List.map (AV.int .i64) v11),AV.int .i64 v12,AV.int .i64 v13,AV.int .i64 v14,AV.int .i64 v15]) [some (.cells [AV.lst false false (List.map (AV.int .i64) v0),AV.int .i64 v16])]:=by
 unfold Aap at hF;refine EN Try.func11 ?_;intro c0 w0 Q h0 hQ
 refine WK [(0,AV.ptr 0 0),(1,AV.agg [Lz v2,Lz v3,Lz v4,Iz v5,Iz v6,Iz v7,Iz v8])] [(0,.cells [Lz v0,Iz v1])] 1 (by simp) (by simp) ?_;refine SQ [] [none,none] fun _ _ g r=>?_;try simp
 and_intros <;> first | exact GK g | apply r | omega | (simp [maxLen] <;> omega)
 refine WK [(0,AV.ptr 0 0),(3,AV.ptr 1 0),(4,AV.ptr 2 0)] [(0,.cells [Lz v0,Iz v1]),(1,.cells [Lz v2,Lz v3,Lz v4,Iz v5,Iz v6,Iz v7,Iz v8]),(2,Aae )] 3 (by simp) (by simp) ?_;refine AW.midF (α:=((List Int)×(List Int)×(List Int)×Int×Int×Int×Int×Int)) (fun (v17,v18,v19,v20,v21,v22,v23,v24)=>Aap.J1 k v17 v18 v19 v20 v21 v22 v23 v24=some (v9,v10,v11,v12,v13,v14,v15,v16)) (fun (v17,v18,v19,v20,v21,v22,v23,v24)=>[(3,AV.ptr 1 0),(4,AV.ptr 2 0)]) (fun (v17,v18,v19,v20,v21,v22,v23,v24)=>[(0,.cells [Lz v0,Iz v24]),(1,.cells [Lz v17,Lz v18,Lz v19,Iz v20,Iz v21,Iz v22,Iz v23]),(2,Aae )]) 3 (fun K48 hK48=>?_) ?_
 ·refine SQ [] [none,none] fun _ _ g r=>?_;try simp
  and_intros
  try any_goals first | omega | (simp [maxLen] <;> omega)
  obtain ⟨v25,v26,h1,hF⟩:=Aak hF;refine Aa5 (Aax k _ _ _ _ _ h1) (by simp) [0] [] [0] rfl (.cons (.same (by simp)) (.cons (.same (by simp)) .nil)) (by simp) (by decide) (by simp) (by simp) (.inl rfl) (by simp) (by simp) ?_;try simp
  and_intros <;> first | exact GK g | apply r | omega | (simp [maxLen] <;> omega)
  refine WK [(0,AV.ptr 0 0),(3,AV.ptr 1 0),(4,AV.ptr 2 0),(6,Iz v25)] [(0,.cells [Lz v0,Iz v26]),(1,.cells [Lz v2,Lz v3,Lz v4,Iz v5,Iz v6,Iz v7,Iz v8]),(2,Aae )] 3 (by simp) (by simp) ?_;refine AW.block ?_;refine SQ [] [none,none] fun _ _ g r=>?_;try simp
  and_intros <;> first | exact GK g | apply r | omega | (simp [maxLen] <;> omega)
  refine WK [(0,AV.ptr 0 0),(3,AV.ptr 1 0),(4,AV.ptr 2 0),(6,Iz v25),(12,AV.bool (v25==0))] [(0,.cells [Lz v0,Iz v26]),(1,.cells [Lz v2,Lz v3,Lz v4,Iz v5,Iz v6,Iz v7,Iz v8]),(2,Aae )] 3 (by simp) (by simp) ?_;by_cases h2 : v25=0
  ·replace hF:=AaF h2 hF;have h2q : v25=0:=h2;have h2_:=AbB h2q;have h2__:=AbA h2q;have F1:=A3 h2_ h2__ h2q;refine CT (by simp [F1] <;> omega) ?_;refine RG [] [none,none,none,none,none,none,none,none,none,none,none] fun _ _ g r=>?_;try simp [F1]
   and_intros
   try any_goals first | omega | (simp [maxLen,F1] <;> omega)
   obtain ⟨v27,v28,h3,hF⟩:=Aak hF;refine Aa5 (Aax k _ _ _ _ _ h3) (by simp) [0] [] [0] rfl (.cons (.same (by simp [F1])) (.cons (.same (by simp [F1])) .nil)) (by simp [F1]) (by decide) (by simp) (by simp) (.inl rfl) (by simp) (by simp) ?_;by_cases h4 : v27=0
   ·replace hF:=AaF h4 hF;have h4q : v27=0:=h4;have h4_:=AbB h4q;have h4__:=AbA h4q;have F2:=A4 F1 h4_ h4__ h4q;try simp [F2]
    and_intros <;> first | exact GK g | apply r | omega | (simp [maxLen,F2] <;> omega)
    refine hK48 _ _ _ ?_;refine Can.weak [(3,AV.ptr 1 0),(4,AV.ptr 2 0)] [(0,.cells [Lz v0,Iz v28]),(1,.cells [AV.lst true true (List.map (AV.int .i64) ([] : List Int)),Lz v3,Lz v4,Iz v5,Iz v6,Iz v7,Iz v8]),(2,Aae )] 3 (by simp [F2]) (by simp [F2]) (by simp) ?_;refine Can.flg [] [(1,.cells [Lz ([] : List Int),Lz v3,Lz v4,Iz v5,Iz v6,Iz v7,Iz v8])] trivial ⟨⟨AaQ.cells [AV.lst true true (List.map (AV.int .i64) ([] : List Int)),Lz v3,Lz v4,Iz v5,Iz v6,Iz v7,Iz v8],by simp [F2],(.mk (.cons (.lst (by simp)) (.cons (.same _) (.cons (.same _) (.cons (.same _) (.cons (.same _) (.cons (.same _) (.cons (.same _) .nil))))))))⟩,trivial⟩ (by simp) ?_;exact JN ((([] : List Int),v3,v4,v5,v6,v7,v8,v28)) hF (by simp [F2]) (by simp [F2])
   ·replace hF:=AaG h4 hF;have h4_:=Aa7 h4;have h4__:=Aa9 h4;by_cases h5 : v27=1
    ·replace hF:=AaF h5 hF;have h5q : v27=1:=h5;have h5_:=AbB h5q;have h5__:=AbA h5q;have F3:=A7 F1 h4 h4_ h4__ h5_ h5__ h5q;try simp [F3]
     and_intros <;> first | exact GK g | apply r | omega | (simp [maxLen,F3] <;> omega)
     refine hK48 _ _ _ ?_;refine Can.weak [(3,AV.ptr 1 0),(4,AV.ptr 2 0)] [(0,.cells [Lz v0,Iz v28]),(1,.cells [AV.lst false true (List.map (AV.int .i64) ([1,1] : List Int)),Lz v3,Lz v4,Iz v5,Iz v6,Iz v7,Iz v8]),(2,Aae )] 3 (by simp [F3]) (by simp [F3]) (by simp) ?_;refine Can.flg [] [(1,.cells [Lz ([1,1] : List Int),Lz v3,Lz v4,Iz v5,Iz v6,Iz v7,Iz v8])] trivial ⟨⟨AaQ.cells [AV.lst false true (List.map (AV.int .i64) ([1,1] : List Int)),Lz v3,Lz v4,Iz v5,Iz v6,Iz v7,Iz v8],by simp [F3],(.mk (.cons (.lst (by simp)) (.cons (.same _) (.cons (.same _) (.cons (.same _) (.cons (.same _) (.cons (.same _) (.cons (.same _) .nil))))))))⟩,trivial⟩ (by simp) ?_;exact JN ((([1,1] : List Int),v3,v4,v5,v6,v7,v8,v28)) hF (by simp [F3]) (by simp [F3])
    ·replace hF:=AaG h5 hF;have h5_:=Aa7 h5;have h5__:=Aa9 h5;by_cases h6 : v27=2
     ·replace hF:=AaF h6 hF;have h6q : v27=2:=h6;have h6_:=AbB h6q;have h6__:=AbA h6q;have F4:=A9 F1 h4 h4_ h4__ h5 h5_ h5__ h6_ (A2 h6__ h6q);try simp [F4]
      and_intros <;> first | exact GK g | apply r | omega | (simp [maxLen,F4] <;> omega)
      refine hK48 _ _ _ ?_;refine Can.weak [(3,AV.ptr 1 0),(4,AV.ptr 2 0)] [(0,.cells [Lz v0,Iz v28]),(1,.cells [AV.lst false true (List.map (AV.int .i64) ([-1] : List Int)),Lz v3,Lz v4,Iz v5,Iz v6,Iz v7,Iz v8]),(2,Aae )] 3 (by simp [F4]) (by simp [F4]) (by simp) ?_;refine Can.flg [] [(1,.cells [Lz ([-1] : List Int),Lz v3,Lz v4,Iz v5,Iz v6,Iz v7,Iz v8])] trivial ⟨⟨AaQ.cells [AV.lst false true (List.map (AV.int .i64) ([-1] : List Int)),Lz v3,Lz v4,Iz v5,Iz v6,Iz v7,Iz v8],by simp [F4],(.mk (.cons (.lst (by simp)) (.cons (.same _) (.cons (.same _) (.cons (.same _) (.cons (.same _) (.cons (.same _) (.cons (.same _) .nil))))))))⟩,trivial⟩ (by simp) ?_;exact JN ((([-1] : List Int),v3,v4,v5,v6,v7,v8,v28)) hF (by simp [F4]) (by simp [F4])
     ·replace hF:=AaG h6 hF;have h6_:=Aa7 h6;have h6__:=Aa9 h6;by_cases h7 : v27=3
      ·replace hF:=AaF h7 hF;have h7q : v27=3:=h7;have h7_:=AbB h7q;have h7__:=AbA h7q;have F5:=A9 F1 h4 h4_ h4__ h5 h5_ h5__ h6 (A5 h6_ h6__ h7_ h7__ h7q);try simp [F5]
       and_intros <;> first | exact GK g | apply r | omega | (simp [maxLen,F5] <;> omega)
       refine hK48 _ _ _ ?_;refine Can.weak [(3,AV.ptr 1 0),(4,AV.ptr 2 0)] [(0,.cells [Lz v0,Iz v28]),(1,.cells [AV.lst false true (List.map (AV.int .i64) ([64] : List Int)),Lz v3,Lz v4,Iz v5,Iz v6,Iz v7,Iz v8]),(2,Aae )] 3 (by simp [F5]) (by simp [F5]) (by simp) ?_;refine Can.flg [] [(1,.cells [Lz ([64] : List Int),Lz v3,Lz v4,Iz v5,Iz v6,Iz v7,Iz v8])] trivial ⟨⟨AaQ.cells [AV.lst false true (List.map (AV.int .i64) ([64] : List Int)),Lz v3,Lz v4,Iz v5,Iz v6,Iz v7,Iz v8],by simp [F5],(.mk (.cons (.lst (by simp)) (.cons (.same _) (.cons (.same _) (.cons (.same _) (.cons (.same _) (.cons (.same _) (.cons (.same _) .nil))))))))⟩,trivial⟩ (by simp) ?_;exact JN ((([64] : List Int),v3,v4,v5,v6,v7,v8,v28)) hF (by simp [F5]) (by simp [F5])
      ·replace hF:=AaG h7 hF;have h7_:=Aa7 h7;have h7__:=Aa9 h7;by_cases h8 : v27=4
       ·replace hF:=AaF h8 hF;have h8q : v27=4:=h8;have h8_:=AbB h8q;have h8__:=AbA h8q;have F6:=A9 F1 h4 h4_ h4__ h5 h5_ h5__ h6 (A8 h6_ h6__ h7 h7_ h7__ h8_ h8__ h8q);try simp [F6]
        and_intros <;> first | exact GK g | apply r | omega | (simp [maxLen,F6] <;> omega)
        refine hK48 _ _ _ ?_;refine Can.weak [(3,AV.ptr 1 0),(4,AV.ptr 2 0)] [(0,.cells [Lz v0,Iz v28]),(1,.cells [AV.lst false true (List.map (AV.int .i64) ([3,2] : List Int)),Lz v3,Lz v4,Iz v5,Iz v6,Iz v7,Iz v8]),(2,Aae )] 3 (by simp [F6]) (by simp [F6]) (by simp) ?_;refine Can.flg [] [(1,.cells [Lz ([3,2] : List Int),Lz v3,Lz v4,Iz v5,Iz v6,Iz v7,Iz v8])] trivial ⟨⟨AaQ.cells [AV.lst false true (List.map (AV.int .i64) ([3,2] : List Int)),Lz v3,Lz v4,Iz v5,Iz v6,Iz v7,Iz v8],by simp [F6],(.mk (.cons (.lst (by simp)) (.cons (.same _) (.cons (.same _) (.cons (.same _) (.cons (.same _) (.cons (.same _) (.cons (.same _) .nil))))))))⟩,trivial⟩ (by simp) ?_;exact JN ((([3,2] : List Int),v3,v4,v5,v6,v7,v8,v28)) hF (by simp [F6]) (by simp [F6])
       ·replace hF:=AaG h8 hF;have h8_:=Aa7 h8;have h8__:=Aa9 h8;cases hF
  ·replace hF:=AaG h2 hF;have h2_:=Aa7 h2;have h2__:=Aa9 h2;have F7:=A3 h2 h2_ h2__;refine CF (by simp [F7] <;> omega) ?_;refine SQ [] [none,none] fun _ _ g r=>?_;try simp [F7]
   and_intros <;> first | exact GK g | apply r | omega | (simp [maxLen,F7] <;> omega)
   refine WK [(0,AV.ptr 0 0),(3,AV.ptr 1 0),(4,AV.ptr 2 0),(6,Iz v25),(24,AV.bool (v25==1))] [(0,.cells [Lz v0,Iz v26]),(1,.cells [Lz v2,Lz v3,Lz v4,Iz v5,Iz v6,Iz v7,Iz v8]),(2,Aae )] 3 (by simp [F7]) (by simp [F7]) ?_;by_cases h9 : v25=1
   ·replace hF:=AaF h9 hF;have h9q : v25=1:=h9;have h9_:=AbB h9q;have h9__:=AbA h9q;have F8:=A4 F7 h9_ h9__ h9q;refine CT (by simp [F8] <;> omega) ?_;refine RG [] [none,none,none,none,none] fun _ _ g r=>?_;try simp [F8]
    and_intros
    try any_goals first | omega | (simp [maxLen,F8] <;> omega)
    obtain ⟨v29,v30,h10,hF⟩:=Aak hF;refine Aa5 (Aar k _ _ _ _ _ h10) (by simp) [0] [] [0] rfl (.cons (.same (by simp [F8])) (.cons (Coe.fl (by simp [F8])) .nil)) (by simp [F8]) (by decide) (by simp) (by simp) (.inl rfl) (by simp) (by simp) ?_;try simp [F8]
    and_intros <;> first | exact GK g | apply r | omega | (simp [maxLen,F8] <;> omega)
    refine hK48 _ _ _ ?_;exact JN ((v2,v3,v4,v5,v29,v7,v8,v30)) hF (by simp [F8]) (by simp [F8])
   ·replace hF:=AaG h9 hF;have h9_:=Aa7 h9;have h9__:=Aa9 h9;have F9:=A4 F7 h9 h9_ h9__;refine CF (by simp [F9] <;> omega) ?_;refine SQ [] [none,none] fun _ _ g r=>?_;try simp [F9]
    and_intros <;> first | exact GK g | apply r | omega | (simp [maxLen,F9] <;> omega)
    refine WK [(0,AV.ptr 0 0),(3,AV.ptr 1 0),(4,AV.ptr 2 0),(6,Iz v25),(30,AV.bool (v25==2))] [(0,.cells [Lz v0,Iz v26]),(1,.cells [Lz v2,Lz v3,Lz v4,Iz v5,Iz v6,Iz v7,Iz v8]),(2,Aae )] 3 (by simp [F9]) (by simp [F9]) ?_;by_cases h11 : v25=2
    ·replace hF:=AaF h11 hF;have h11q : v25=2:=h11;have h11_:=AbB h11q;have h11__:=AbA h11q;have F10:=A4 F9 h11_ h11__ h11q;refine CT (by simp [F10] <;> omega) ?_;refine RG [] [none,none,none,none,none] fun _ _ g r=>?_;try simp [F10]
     and_intros
     try any_goals first | omega | (simp [maxLen,F10] <;> omega)
     obtain ⟨v31,v32,h12,hF⟩:=Aak hF;refine Aa5 (Aar k _ _ _ _ _ h12) (by simp) [0] [] [0] rfl (.cons (.same (by simp [F10])) (.cons (Coe.fl (by simp [F10])) .nil)) (by simp [F10]) (by decide) (by simp) (by simp) (.inl rfl) (by simp) (by simp) ?_;try simp [F10]
     and_intros <;> first | exact GK g | apply r | omega | (simp [maxLen,F10] <;> omega)
     refine hK48 _ _ _ ?_;exact JN ((v2,v3,v4,v5,v6,v31,v8,v32)) hF (by simp [F10]) (by simp [F10])
    ·replace hF:=AaG h11 hF;have h11_:=Aa7 h11;have h11__:=Aa9 h11;have F11:=A4 F9 h11 h11_ h11__;refine CF (by simp [F11] <;> omega) ?_;refine SQ [] [none,none] fun _ _ g r=>?_;try simp [F11]
     and_intros <;> first | exact GK g | apply r | omega | (simp [maxLen,F11] <;> omega)
     refine WK [(0,AV.ptr 0 0),(3,AV.ptr 1 0),(4,AV.ptr 2 0),(6,Iz v25),(36,AV.bool (v25==3))] [(0,.cells [Lz v0,Iz v26]),(1,.cells [Lz v2,Lz v3,Lz v4,Iz v5,Iz v6,Iz v7,Iz v8]),(2,Aae )] 3 (by simp [F11]) (by simp [F11]) ?_;by_cases h13 : v25=3
     ·replace hF:=AaF h13 hF;have h13q : v25=3:=h13;have h13_:=AbB h13q;have h13__:=AbA h13q;have F12:=A4 F11 h13_ h13__ h13q;refine CT (by simp [F12] <;> omega) ?_;refine RG [] [none,none,none,none,none] fun _ _ g r=>?_;try simp [F12]
      and_intros
      try any_goals first | omega | (simp [maxLen,F12] <;> omega)
      obtain ⟨v33,v34,h14,hF⟩:=Aak hF;refine Aa5 (Aar k _ _ _ _ _ h14) (by simp) [0] [] [0] rfl (.cons (.same (by simp [F12])) (.cons (Coe.fl (by simp [F12])) .nil)) (by simp [F12]) (by decide) (by simp) (by simp) (.inl rfl) (by simp) (by simp) ?_;try simp [F12]
      and_intros <;> first | exact GK g | apply r | omega | (simp [maxLen,F12] <;> omega)
      refine hK48 _ _ _ ?_;exact JN ((v2,v3,v4,v5,v6,v7,v33,v34)) hF (by simp [F12]) (by simp [F12])
     ·replace hF:=AaG h13 hF;have h13_:=Aa7 h13;have h13__:=Aa9 h13;have F13:=A4 F11 h13 h13_ h13__;refine CF (by simp [F13] <;> omega) ?_;refine SQ [] [none,none] fun _ _ g r=>?_;try simp [F13]
      and_intros <;> first | exact GK g | apply r | omega | (simp [maxLen,F13] <;> omega)
      refine WK [(0,AV.ptr 0 0),(3,AV.ptr 1 0),(4,AV.ptr 2 0),(6,Iz v25),(42,AV.bool (v25==4))] [(0,.cells [Lz v0,Iz v26]),(1,.cells [Lz v2,Lz v3,Lz v4,Iz v5,Iz v6,Iz v7,Iz v8]),(2,Aae )] 3 (by simp [F13]) (by simp [F13]) ?_;by_cases h15 : v25=4
      ·replace hF:=AaF h15 hF;have h15q : v25=4:=h15;have h15_:=AbB h15q;have h15__:=AbA h15q;have F14:=A4 F13 h15_ h15__ h15q;refine CT (by simp [F14] <;> omega) ?_;refine RG [] [none,none,none,none,none,none,none,none,none,none] fun _ _ g r=>?_;try simp [F14]
       and_intros
       try any_goals first | omega | (simp [maxLen,F14] <;> omega)
       obtain ⟨v35,v36,h16,hF⟩:=Aak hF;refine Aa5 (Aax k _ _ _ _ _ h16) (by simp) [0] [] [0] rfl (.cons (.same (by simp [F14])) (.cons (.same (by simp [F14])) .nil)) (by simp [F14]) (by decide) (by simp) (by simp) (.inl rfl) (by simp) (by simp) ?_;by_cases h17 : v35=0
       ·replace hF:=AaF h17 hF;have h17q : v35=0:=h17;have h17_:=AbB h17q;have h17__:=AbA h17q;have F15:=A4 F14 h17_ h17__ h17q;try simp [F15]
        and_intros <;> first | exact GK g | apply r | omega | (simp [maxLen,F15] <;> omega)
        refine hK48 _ _ _ ?_;refine Can.weak [(3,AV.ptr 1 0),(4,AV.ptr 2 0)] [(0,.cells [Lz v0,Iz v36]),(1,.cells [Lz v2,AV.lst true true (List.map (AV.int .i64) ([] : List Int)),Lz v4,Iz v5,Iz v6,Iz v7,Iz v8]),(2,Aae )] 3 (by simp [F15]) (by simp [F15]) (by simp) ?_;refine Can.flg [] [(1,.cells [Lz v2,Lz ([] : List Int),Lz v4,Iz v5,Iz v6,Iz v7,Iz v8])] trivial ⟨⟨AaQ.cells [Lz v2,AV.lst true true (List.map (AV.int .i64) ([] : List Int)),Lz v4,Iz v5,Iz v6,Iz v7,Iz v8],by simp [F15],(.mk (.cons (.same _) (.cons (.lst (by simp)) (.cons (.same _) (.cons (.same _) (.cons (.same _) (.cons (.same _) (.cons (.same _) .nil))))))))⟩,trivial⟩ (by simp) ?_;exact JN ((v2,([] : List Int),v4,v5,v6,v7,v8,v36)) hF (by simp [F15]) (by simp [F15])
       ·replace hF:=AaG h17 hF;have h17_:=Aa7 h17;have h17__:=Aa9 h17;by_cases h18 : v35=1
        ·replace hF:=AaF h18 hF;have h18q : v35=1:=h18;have h18_:=AbB h18q;have h18__:=AbA h18q;have F16:=A7 F14 h17 h17_ h17__ h18_ h18__ h18q;try simp [F16]
         and_intros <;> first | exact GK g | apply r | omega | (simp [maxLen,F16] <;> omega)
         refine hK48 _ _ _ ?_;refine Can.weak [(3,AV.ptr 1 0),(4,AV.ptr 2 0)] [(0,.cells [Lz v0,Iz v36]),(1,.cells [Lz v2,AV.lst false true (List.map (AV.int .i64) ([64] : List Int)),Lz v4,Iz v5,Iz v6,Iz v7,Iz v8]),(2,Aae )] 3 (by simp [F16]) (by simp [F16]) (by simp) ?_;refine Can.flg [] [(1,.cells [Lz v2,Lz ([64] : List Int),Lz v4,Iz v5,Iz v6,Iz v7,Iz v8])] trivial ⟨⟨AaQ.cells [Lz v2,AV.lst false true (List.map (AV.int .i64) ([64] : List Int)),Lz v4,Iz v5,Iz v6,Iz v7,Iz v8],by simp [F16],(.mk (.cons (.same _) (.cons (.lst (by simp)) (.cons (.same _) (.cons (.same _) (.cons (.same _) (.cons (.same _) (.cons (.same _) .nil))))))))⟩,trivial⟩ (by simp) ?_;exact JN ((v2,([64] : List Int),v4,v5,v6,v7,v8,v36)) hF (by simp [F16]) (by simp [F16])
        ·replace hF:=AaG h18 hF;have h18_:=Aa7 h18;have h18__:=Aa9 h18;by_cases h19 : v35=2
         ·replace hF:=AaF h19 hF;have h19q : v35=2:=h19;have h19_:=AbB h19q;have h19__:=AbA h19q;have F17:=A9 F14 h17 h17_ h17__ h18 h18_ h18__ h19_ (A2 h19__ h19q);try simp [F17]
          and_intros <;> first | exact GK g | apply r | omega | (simp [maxLen,F17] <;> omega)
          refine hK48 _ _ _ ?_;refine Can.weak [(3,AV.ptr 1 0),(4,AV.ptr 2 0)] [(0,.cells [Lz v0,Iz v36]),(1,.cells [Lz v2,AV.lst false true (List.map (AV.int .i64) ([1,0] : List Int)),Lz v4,Iz v5,Iz v6,Iz v7,Iz v8]),(2,Aae )] 3 (by simp [F17]) (by simp [F17]) (by simp) ?_;refine Can.flg [] [(1,.cells [Lz v2,Lz ([1,0] : List Int),Lz v4,Iz v5,Iz v6,Iz v7,Iz v8])] trivial ⟨⟨AaQ.cells [Lz v2,AV.lst false true (List.map (AV.int .i64) ([1,0] : List Int)),Lz v4,Iz v5,Iz v6,Iz v7,Iz v8],by simp [F17],(.mk (.cons (.same _) (.cons (.lst (by simp)) (.cons (.same _) (.cons (.same _) (.cons (.same _) (.cons (.same _) (.cons (.same _) .nil))))))))⟩,trivial⟩ (by simp) ?_;exact JN ((v2,([1,0] : List Int),v4,v5,v6,v7,v8,v36)) hF (by simp [F17]) (by simp [F17])
         ·replace hF:=AaG h19 hF;have h19_:=Aa7 h19;have h19__:=Aa9 h19;cases hF
      ·replace hF:=AaG h15 hF;have h15_:=Aa7 h15;have h15__:=Aa9 h15;have F18:=A4 F13 h15 h15_ h15__;refine CF (by simp [F18] <;> omega) ?_;refine SQ [] [none,none] fun _ _ g r=>?_;try simp [F18]
       and_intros <;> first | exact GK g | apply r | omega | (simp [maxLen,F18] <;> omega)
       refine WK [(0,AV.ptr 0 0),(3,AV.ptr 1 0),(4,AV.ptr 2 0),(53,AV.bool (v25==5))] [(0,.cells [Lz v0,Iz v26]),(1,.cells [Lz v2,Lz v3,Lz v4,Iz v5,Iz v6,Iz v7,Iz v8]),(2,Aae )] 3 (by simp [F18]) (by simp [F18]) ?_;by_cases h20 : v25=5
       ·replace hF:=AaF h20 hF;have h20q : v25=5:=h20;have h20_:=AbB h20q;have h20__:=AbA h20q;have F19:=A4 F18 h20_ h20__ h20q;refine CT (by simp [F19] <;> omega) ?_;refine RG [] [none,none,none,none,none,none,none,none,none,none,none] fun _ _ g r=>?_;try simp [F19]
        and_intros
        try any_goals first | omega | (simp [maxLen,F19] <;> omega)
        obtain ⟨v37,v38,h21,hF⟩:=Aak hF;refine Aa5 (Aax k _ _ _ _ _ h21) (by simp) [0] [] [0] rfl (.cons (.same (by simp [F19])) (.cons (.same (by simp [F19])) .nil)) (by simp [F19]) (by decide) (by simp) (by simp) (.inl rfl) (by simp) (by simp) ?_;by_cases h22 : v37=0
        ·replace hF:=AaF h22 hF;have h22q : v37=0:=h22;have h22_:=AbB h22q;have h22__:=AbA h22q;have F20:=A4 F19 h22_ h22__ h22q;try simp [F20]
         and_intros <;> first | exact GK g | apply r | omega | (simp [maxLen,F20] <;> omega)
         refine hK48 _ _ _ ?_;refine Can.weak [(3,AV.ptr 1 0),(4,AV.ptr 2 0)] [(0,.cells [Lz v0,Iz v38]),(1,.cells [Lz v2,Lz v3,AV.lst true true (List.map (AV.int .i64) ([] : List Int)),Iz v5,Iz v6,Iz v7,Iz v8]),(2,Aae )] 3 (by simp [F20]) (by simp [F20]) (by simp) ?_;refine Can.flg [] [(1,.cells [Lz v2,Lz v3,Lz ([] : List Int),Iz v5,Iz v6,Iz v7,Iz v8])] trivial ⟨⟨AaQ.cells [Lz v2,Lz v3,AV.lst true true (List.map (AV.int .i64) ([] : List Int)),Iz v5,Iz v6,Iz v7,Iz v8],by simp [F20],(.mk (.cons (.same _) (.cons (.same _) (.cons (.lst (by simp)) (.cons (.same _) (.cons (.same _) (.cons (.same _) (.cons (.same _) .nil))))))))⟩,trivial⟩ (by simp) ?_;exact JN ((v2,v3,([] : List Int),v5,v6,v7,v8,v38)) hF (by simp [F20]) (by simp [F20])
        ·replace hF:=AaG h22 hF;have h22_:=Aa7 h22;have h22__:=Aa9 h22;by_cases h23 : v37=1
         ·replace hF:=AaF h23 hF;have h23q : v37=1:=h23;have h23_:=AbB h23q;have h23__:=AbA h23q;have F21:=A7 F19 h22 h22_ h22__ h23_ h23__ h23q;try simp [F21]
          and_intros <;> first | exact GK g | apply r | omega | (simp [maxLen,F21] <;> omega)
          refine hK48 _ _ _ ?_;refine Can.weak [(3,AV.ptr 1 0),(4,AV.ptr 2 0)] [(0,.cells [Lz v0,Iz v38]),(1,.cells [Lz v2,Lz v3,AV.lst false true (List.map (AV.int .i64) ([1,2] : List Int)),Iz v5,Iz v6,Iz v7,Iz v8]),(2,Aae )] 3 (by simp [F21]) (by simp [F21]) (by simp) ?_;refine Can.flg [] [(1,.cells [Lz v2,Lz v3,Lz ([1,2] : List Int),Iz v5,Iz v6,Iz v7,Iz v8])] trivial ⟨⟨AaQ.cells [Lz v2,Lz v3,AV.lst false true (List.map (AV.int .i64) ([1,2] : List Int)),Iz v5,Iz v6,Iz v7,Iz v8],by simp [F21],(.mk (.cons (.same _) (.cons (.same _) (.cons (.lst (by simp)) (.cons (.same _) (.cons (.same _) (.cons (.same _) (.cons (.same _) .nil))))))))⟩,trivial⟩ (by simp) ?_;exact JN ((v2,v3,([1,2] : List Int),v5,v6,v7,v8,v38)) hF (by simp [F21]) (by simp [F21])
         ·replace hF:=AaG h23 hF;have h23_:=Aa7 h23;have h23__:=Aa9 h23;by_cases h24 : v37=2
          ·replace hF:=AaF h24 hF;have h24q : v37=2:=h24;have h24_:=AbB h24q;have h24__:=AbA h24q;have F22:=A9 F19 h22 h22_ h22__ h23 h23_ h23__ h24_ (A2 h24__ h24q);try simp [F22]
           and_intros <;> first | exact GK g | apply r | omega | (simp [maxLen,F22] <;> omega)
           refine hK48 _ _ _ ?_;refine Can.weak [(3,AV.ptr 1 0),(4,AV.ptr 2 0)] [(0,.cells [Lz v0,Iz v38]),(1,.cells [Lz v2,Lz v3,AV.lst false true (List.map (AV.int .i64) ([0] : List Int)),Iz v5,Iz v6,Iz v7,Iz v8]),(2,Aae )] 3 (by simp [F22]) (by simp [F22]) (by simp) ?_;refine Can.flg [] [(1,.cells [Lz v2,Lz v3,Lz ([0] : List Int),Iz v5,Iz v6,Iz v7,Iz v8])] trivial ⟨⟨AaQ.cells [Lz v2,Lz v3,AV.lst false true (List.map (AV.int .i64) ([0] : List Int)),Iz v5,Iz v6,Iz v7,Iz v8],by simp [F22],(.mk (.cons (.same _) (.cons (.same _) (.cons (.lst (by simp)) (.cons (.same _) (.cons (.same _) (.cons (.same _) (.cons (.same _) .nil))))))))⟩,trivial⟩ (by simp) ?_;exact JN ((v2,v3,([0] : List Int),v5,v6,v7,v8,v38)) hF (by simp [F22]) (by simp [F22])
          ·replace hF:=AaG h24 hF;have h24_:=Aa7 h24;have h24__:=Aa9 h24;by_cases h25 : v37=3
           ·replace hF:=AaF h25 hF;have h25q : v37=3:=h25;have h25_:=AbB h25q;have h25__:=AbA h25q;have F23:=A9 F19 h22 h22_ h22__ h23 h23_ h23__ h24 (A5 h24_ h24__ h25_ h25__ h25q);try simp [F23]
            and_intros <;> first | exact GK g | apply r | omega | (simp [maxLen,F23] <;> omega)
            refine hK48 _ _ _ ?_;refine Can.weak [(3,AV.ptr 1 0),(4,AV.ptr 2 0)] [(0,.cells [Lz v0,Iz v38]),(1,.cells [Lz v2,Lz v3,AV.lst false true (List.map (AV.int .i64) ([1001] : List Int)),Iz v5,Iz v6,Iz v7,Iz v8]),(2,Aae )] 3 (by simp [F23]) (by simp [F23]) (by simp) ?_;refine Can.flg [] [(1,.cells [Lz v2,Lz v3,Lz ([1001] : List Int),Iz v5,Iz v6,Iz v7,Iz v8])] trivial ⟨⟨AaQ.cells [Lz v2,Lz v3,AV.lst false true (List.map (AV.int .i64) ([1001] : List Int)),Iz v5,Iz v6,Iz v7,Iz v8],by simp [F23],(.mk (.cons (.same _) (.cons (.same _) (.cons (.lst (by simp)) (.cons (.same _) (.cons (.same _) (.cons (.same _) (.cons (.same _) .nil))))))))⟩,trivial⟩ (by simp) ?_;exact JN ((v2,v3,([1001] : List Int),v5,v6,v7,v8,v38)) hF (by simp [F23]) (by simp [F23])
           ·replace hF:=AaG h25 hF;have h25_:=Aa7 h25;have h25__:=Aa9 h25;cases hF
       ·replace hF:=AaG h20 hF;have h20_:=Aa7 h20;have h20__:=Aa9 h20;have F24:=A4 F18 h20 h20_ h20__;refine CF (by simp [F24] <;> omega) ?_;refine RG [] [none,none,none,none,none,none] fun _ _ g r=>?_;try simp [F24]
        and_intros
        try any_goals first | omega | (simp [maxLen,F24] <;> omega)
        obtain ⟨v39,v40,h26,hF⟩:=Aak hF;refine Aa5 (Aar k _ _ _ _ _ h26) (by simp) [0] [] [0] rfl (.cons (.same (by simp [F24])) (.cons (Coe.fl (by simp [F24])) .nil)) (by simp [F24]) (by decide) (by simp) (by simp) (.inl rfl) (by simp) (by simp) ?_;try simp [F24]
        and_intros <;> first | exact GK g | apply r | omega | (simp [maxLen,F24] <;> omega)
        refine hK48 _ _ _ ?_;exact JN ((v2,v3,v4,v39,v6,v7,v8,v40)) hF (by simp [F24]) (by simp [F24])
 ·rintro ⟨v17,v18,v19,v20,v21,v22,v23,v24⟩ hF
  try dsimp only at hF
  unfold Aap.J1 at hF;refine SQ [] [none,none] fun _ _ g r=>?_;try simp
  and_intros <;> first | exact GK g | apply r | omega | (simp [maxLen] <;> omega)
  refine WK [(4,AV.ptr 2 0)] [(0,.cells [Lz v0,Iz v24]),(2,.cells [Lz v17,Lz v18,Lz v19,Iz v20,Iz v21,Iz v22,Iz v23])] 3 (by simp) (by simp) ?_;refine AW.rnm (m:=1) h0 [(0,0),(1,2)] [(4,AV.ptr 1 0)] [(0,.cells [Lz v0,Iz v24]),(1,.cells [Lz v17,Lz v18,Lz v19,Iz v20,Iz v21,Iz v22,Iz v23])] 2 (by decide) (by decide) (by decide) rfl (by simp) (by simp) ?_;simp only [Option.some.injEq,Prod.mk.injEq] at hF;obtain ⟨e0,e1,e2,e3,e4,e5,e6,e7⟩:=hF;subst e0 e1 e2 e3 e4 e5 e6 e7;refine AW.ret (hQ _ _ _ ?_ (AaB ?_)).1
  ·simp [Try.f11]
  ·simp
end Go.TF
