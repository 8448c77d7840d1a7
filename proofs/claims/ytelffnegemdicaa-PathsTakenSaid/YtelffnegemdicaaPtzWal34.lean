import Derived.Test.YtelffnegemdicaaPtzWal29
import Derived.Test.YtelffnegemdicaaPtzWal30
import Derived.Test.YtelffnegemdicaaPtzWal31
import Derived.Test.YtelffnegemdicaaPtzWal32
import Derived.Test.YtelffnegemdicaaPtzWal33
set_option linter.unusedVariables false
set_option linter.unusedSimpArgs false
set_option maxRecDepth 100000
set_option maxHeartbeats 4000000
namespace Go.TF
open Go Go.Abs Go.Proofs Go.Proofs.YtelffnegemdicaaPtT
theorem Aee (k : Nat) (v0 : Int) (v1 : (List AaA)) (v2 : (List Int)) (v3 : Int) (v4 : Int) (v5 : Int) (v6 : Int) (hF : AdB k v0 v1 v2 v3 v4 v5=some v6) :
 AbF Try.prog 31 [AV.agg [AV.int .i64 v0,Q0 v1,AV.lst false false (List.map (AV.int .i64) v2)],AV.int .i64 v3,AV.int .i64 v4,AV.int .i64 v5] [] (AV.int .i64 v6) []:=by
 unfold AdB at hF;refine EN Try.func31 ?_;intro c0 w0 Q h0 hQ
 refine WK [(0,AV.agg [Iz v0,Q0 v1,Lz v2]),(1,Iz v3),(2,Iz v4),(3,Iz v5)] [] 0 (by simp) (by simp) ?_;refine SQ [] [none,none] fun _ _ g r=>?_;try simp
 and_intros <;> first | exact GK g | apply r | omega | (simp [maxLen] <;> omega)
 refine WK [(1,Iz v3),(2,Iz v4),(3,Iz v5),(4,AV.ptr 0 0)] [(0,.cells [Iz v0,Q0 v1,Lz v2])] 1 (by simp) (by simp) ?_;refine AW.seq fun K13 hK13=>?_;refine SQ [] [none,none,none,none,none,none] fun _ _ g r=>?_;try simp
 and_intros
 try any_goals first | omega | (simp [maxLen] <;> omega)
 obtain ⟨v7,h1,hF⟩:=AaQ hF;refine AC (AdY k _ _ _ _ _ _ _ h1) (.cons (.same (by simp)) (.cons (.same (by simp)) (.cons (.same (by simp)) (.cons (.same (by simp)) .nil)))) ?_;try simp
 and_intros <;> first | exact GK g | apply r | omega | (simp [maxLen] <;> omega)
 refine WK [(1,Iz v3),(2,Iz v4),(3,Iz v5),(4,AV.ptr 0 0),(17,AV.bool (!v7))] [(0,.cells [Iz v0,Q0 v1,Lz v2])] 1 (by simp) (by simp) ?_;by_cases h2 : (!v7)=true
 ·replace hF:=Aag h2 hF;have h2_:=h2;try simp at h2_
  refine CT (by simp [h2,h2_] <;> omega) ?_;refine SQ [] [none] fun _ _ g r=>?_;try simp [h2,h2_]
  and_intros <;> first | exact GK g | apply r | omega | (simp [h2,h2_,maxLen] <;> omega)
  refine WK [(8,Iz 0)] [] 1 (by simp [h2,h2_]) (by simp [h2,h2_]) ?_;simp only [Option.some.injEq] at hF;subst hF;refine AW.ret (hQ _ _ _ ?_ (AaI ?_)).1
  ·simp [Try.f31,h2,h2_]
  ·simp [h2,h2_]
 ·replace hF:=Aah h2 hF;have h2_:=h2;try simp at h2_
  refine CF (by simp [h2,h2_] <;> omega) ?_;refine AW.skip ?_;refine hK13 _ _ _ ?_;refine SQ [] [none,none,none,none,none,none,none] fun _ _ g r=>?_;try simp [h2,h2_]
  and_intros
  try any_goals first | omega | (simp [h2,h2_,maxLen] <;> omega)
  obtain ⟨v8,v9,h3,hF⟩:=Abd hF;refine AC (Aec k _ _ _ _ _ _ _ _ h3) (.cons (.same (by simp [h2,h2_])) (.cons (.same (by simp [h2,h2_])) (.cons (.same (by simp [h2,h2_])) (.cons (.same (by simp [h2,h2_])) .nil)))) ?_;try simp [h2,h2_]
  and_intros <;> first | exact GK g | apply r | omega | (simp [h2,h2_,maxLen] <;> omega)
  refine WK [(9,AV.ptr 2 0)] [(1,.grow (AaJ (List.map AaD.av v9))),(2,.cells [Iz v8,AV.slc 1 0 3 v9.length false])] 3 (by simp [h2,h2_]) (by simp [h2,h2_]) ?_;refine AW.frz 1 (o := .grow (AaJ (List.map AaD.av v9))) (by simp [h2,h2_]) rfl [] [(2,.cells [Iz v8,Q1 v9])] trivial ⟨⟨by simp,Aat.cells [Iz v8,AV.slc 1 0 3 v9.length false],by simp [h2,h2_],(.mk (.cons (.same _) (.cons (.l (by simp) (by simp) (by simp) (by simp)) .nil)))⟩,trivial⟩ ?_;refine WK [(9,AV.ptr 2 0)] [(2,.cells [Iz v8,Q1 v9])] 3 (by simp [h2,h2_]) (by simp [h2,h2_]) ?_;refine SQ [] [none,none,none,none,none,none,none] fun _ _ g r=>?_;try simp [h2,h2_]
  and_intros
  try any_goals first | omega | (simp [h2,h2_,maxLen] <;> omega)
  obtain ⟨v10,v11,h4,hF⟩:=Abd hF;refine AC (Ahc k _ _ _ _ h4) (.cons (.same (by simp [h2,h2_])) .nil) ?_;try simp [h2,h2_]
  and_intros <;> first | exact GK g | apply r | omega | (simp [h2,h2_,maxLen] <;> omega)
  refine WK [(9,AV.ptr 2 0),(10,AV.slc 3 0 1 v10.length false)] [(2,.cells [Iz v8,Q1 v9]),(3,Gi v10)] 4 (by simp [h2,h2_]) (by simp [h2,h2_]) ?_;refine AW.frz 3 (o:=Gi v10) (by simp [h2,h2_]) rfl [(10,Lz v10)] [] ⟨(.l (by simp) (by simp) (by simp) (by simp)),trivial⟩ trivial ?_;refine WK [(9,AV.ptr 2 0),(10,Lz v10)] [(2,.cells [Iz v8,Q1 v9])] 4 (by simp [h2,h2_]) (by simp [h2,h2_]) ?_;refine SQ [] [none,none,none,none] fun _ _ g r=>?_;try simp [h2,h2_]
  and_intros
  try any_goals first | omega | (simp [h2,h2_,maxLen] <;> omega)
  obtain ⟨v12,h5,hF⟩:=AaQ hF;refine AC (AgP k _ _ _ _ h5) (.cons (.same (by simp [h2,h2_])) (.cons (.same (by simp [h2,h2_])) .nil)) ?_;try simp [h2,h2_]
  and_intros <;> first | exact GK g | apply r | omega | (simp [h2,h2_,maxLen] <;> omega)
  refine WK [(8,Iz v12)] [] 4 (by simp [h2,h2_]) (by simp [h2,h2_]) ?_;simp only [Option.some.injEq] at hF;subst hF;refine AW.ret (hQ _ _ _ ?_ (AaI ?_)).1
  ·simp [Try.f31,h2,h2_]
  ·simp [h2,h2_]
theorem AhO (k : Nat) (v0 : Int) (v1 : Int) (v2 : Int) (v3 : Int) (v4 : Int) (v5 : Int) (v6 : Bool) (hF : AdN k v0 v1 v2 v3 v4 v5=some v6) :
 AbF Try.prog 85 [AV.agg [AV.int .i64 v0,AV.int .i64 v1,AV.int .i64 v2],AV.ptr 0 0,AV.ptr 1 0,AV.ptr 2 0] [.cells [AV.int .i64 v3],.cells [AV.int .i64 v4],.cells [AV.int .i64 v5]] (AV.bool v6) [some (.cells [AV.int .i64 v3]),some (.cells [AV.int .i64 v4]),some (.cells [AV.int .i64 v5])]:=by
 unfold AdN at hF;refine EN Try.func85 ?_;intro c0 w0 Q h0 hQ
 refine WK [(0,AV.agg [Iz v0,Iz v1,Iz v2]),(1,AV.ptr 0 0),(2,AV.ptr 1 0),(3,AV.ptr 2 0)] [(0,.cells [Iz v3]),(1,.cells [Iz v4]),(2,.cells [Iz v5])] 3 (by simp) (by simp) ?_;refine SQ [] [none,none] fun _ _ g r=>?_;try simp
 and_intros <;> first | exact GK g | apply r | omega | (simp [maxLen] <;> omega)
 refine WK [(1,AV.ptr 0 0),(2,AV.ptr 1 0),(3,AV.ptr 2 0),(4,AV.ptr 3 0)] [(0,.cells [Iz v3]),(1,.cells [Iz v4]),(2,.cells [Iz v5]),(3,.cells [Iz v0,Iz v1,Iz v2])] 4 (by simp) (by simp) ?_;refine SQ [] [none,none,none,none,none,some (10,true),some (10,true),some (10,true),some (10,true),none,none,some (16,true),some (16,true),some (16,true),some (16,true),none,none] fun _ _ g r=>?_;by_cases h1 : v0=v3
 ·replace hF:=Aag h1 hF;have h1q : v0=v3:=h1;have h1_:=Abm h1q;have h1__:=Abl h1q;by_cases h2 : v1=v4
  ·replace hF:=Aag h2 hF;have h2q : v1=v4:=h2;have h2_:=Abm h2q;have h2__:=Abl h2q;have F1:=A4 h1_ h1__ h2_ h2__;try simp [F1]
   and_intros <;> first | exact GK g | apply r | omega | (simp [maxLen,F1] <;> omega)
   refine WK [(5,AV.bool (decide (v5≤v2)))] [(0,.cells [Iz v3]),(1,.cells [Iz v4]),(2,.cells [Iz v5])] 4 (by simp [F1]) (by simp [F1]) ?_;simp only [Option.some.injEq] at hF;subst hF;refine AW.ret (hQ _ _ _ ?_ (AaI ?_)).1
   ·simp [Try.f85,F1]
   ·simp [F1]
  ·replace hF:=Aah h2 hF;have h2_:=Abg h2;have h2__:=Abi h2;have F2:=A5 h1_ h1__ h2 h2_ h2__;try simp [F2]
   and_intros <;> first | exact GK g | apply r | omega | (simp [maxLen,F2] <;> omega)
   refine WK [(5,AV.bool false)] [(0,.cells [Iz v3]),(1,.cells [Iz v4]),(2,.cells [Iz v5])] 4 (by simp [F2]) (by simp [F2]) ?_;simp only [Option.some.injEq] at hF;subst hF;refine AW.ret (hQ _ _ _ ?_ (AaI ?_)).1
   ·simp [Try.f85,F2]
   ·simp [F2]
 ·replace hF:=Aah h1 hF;have h1_:=Abg h1;have h1__:=Abi h1;have F3:=A3 h1 h1_ h1__;try simp [F3]
  and_intros <;> first | exact GK g | apply r | omega | (simp [maxLen,F3] <;> omega)
  refine WK [(5,AV.bool false)] [(0,.cells [Iz v3]),(1,.cells [Iz v4]),(2,.cells [Iz v5])] 4 (by simp [F3]) (by simp [F3]) ?_;simp only [Option.some.injEq] at hF;subst hF;refine AW.ret (hQ _ _ _ ?_ (AaI ?_)).1
  ·simp [Try.f85,F3]
  ·simp [F3]
theorem AcE (k : Nat) (v0 : (List AaA)) (v1 : Int) (v2 : Int) (v3 : Int) (v4 : Int) (hF : AaT k v0 v1 v2 v3=some v4) :
 AbF Try.prog 103 [Q0 v0,AV.fn 85 [AV.ptr 0 0,AV.ptr 1 0,AV.ptr 2 0]] [.cells [AV.int .i64 v1],.cells [AV.int .i64 v2],.cells [AV.int .i64 v3]] (AV.int .i64 v4) [some (.cells [AV.int .i64 v1]),some (.cells [AV.int .i64 v2]),some (.cells [AV.int .i64 v3])]:=by
 unfold AaT at hF;refine EN Try.func103 ?_;intro c0 w0 Q h0 hQ
 refine WK [(0,Q0 v0),(1,AV.fn 85 [AV.ptr 0 0,AV.ptr 1 0,AV.ptr 2 0])] [(0,.cells [Iz v1]),(1,.cells [Iz v2]),(2,.cells [Iz v3])] 3 (by simp) (by simp) ?_;refine SQ [] [none] fun _ _ g r=>?_;try simp
 and_intros <;> first | exact GK g | apply r | omega | (simp [maxLen] <;> omega)
 refine WK [(0,Q0 v0),(1,AV.fn 85 [AV.ptr 0 0,AV.ptr 1 0,AV.ptr 2 0])] [(0,.cells [Iz v1]),(1,.cells [Iz v2]),(2,.cells [Iz v3])] 3 (by simp) (by simp) ?_;refine AW.seq fun K131 hK131=>?_;refine SQ [] [none,none,none] fun _ _ g r=>?_;try simp
 and_intros <;> first | exact GK g | apply r | omega | (simp [maxLen] <;> omega)
 refine WK [(0,Q0 v0),(1,AV.fn 85 [AV.ptr 0 0,AV.ptr 1 0,AV.ptr 2 0]),(7,Iz (v0.length : Int)),(8,Iz 0)] [(0,.cells [Iz v1]),(1,.cells [Iz v2]),(2,.cells [Iz v3])] 3 (by simp) (by simp) ?_;refine AW.block ?_;refine AW.loopF (α:=Int) (fun n v5=>AaT.L1 k v0 v1 v2 v3 n v5=some v4) (fun v5=>[(0,Q0 v0),(1,AV.fn 85 [AV.ptr 0 0,AV.ptr 1 0,AV.ptr 2 0]),(7,Iz (v0.length : Int)),(8,Iz v5)]) (fun v5=>[(0,.cells [Iz v1]),(1,.cells [Iz v2]),(2,.cells [Iz v3])]) 3 k (0) hF (by simp) (by simp) (by simp) ?_;rintro (_|n1) v5 hF K163 hK163
 ·try dsimp only at hF
  rw [AaT.L1] at hF; cases hF
 try dsimp only at hF
 rw [AaT.L1] at hF;refine SQ [] [none] fun _ _ g r=>?_;try simp
 and_intros <;> first | exact GK g | apply r | omega | (simp [maxLen] <;> omega)
 refine WK [(0,Q0 v0),(1,AV.fn 85 [AV.ptr 0 0,AV.ptr 1 0,AV.ptr 2 0]),(7,Iz (v0.length : Int)),(8,Iz v5),(9,AV.bool (decide (v5<(v0.length : Int))))] [(0,.cells [Iz v1]),(1,.cells [Iz v2]),(2,.cells [Iz v3])] 3 (by simp) (by simp) ?_;refine AW.seq fun K165 hK165=>?_;by_cases h1 : v5<(v0.length : Int)
 ·replace hF:=Aag h1 hF;have h1_:=h1;try simp at h1_
  refine CT (by simp [h1,h1_] <;> omega) ?_;refine AW.skip ?_;refine hK165 _ _ _ ?_;refine AW.seq fun K169 hK169=>?_;refine AW.block ?_;refine SQ [] [none,none] fun _ _ g r=>?_;try simp [h1,h1_]
  and_intros <;> first | exact GK g | apply r | omega | (simp [h1,h1_,maxLen] <;> omega)
  refine WK [(0,Q0 v0),(1,AV.fn 85 [AV.ptr 0 0,AV.ptr 1 0,AV.ptr 2 0]),(5,Iz v5),(7,Iz (v0.length : Int)),(8,Iz v5)] [(0,.cells [Iz v1]),(1,.cells [Iz v2]),(2,.cells [Iz v3])] 3 (by simp [h1,h1_]) (by simp [h1,h1_]) ?_;refine SQ [] [none,none,none,none,none,none] fun _ _ g r=>?_;obtain ⟨v6,h2,h3,h4,hF⟩:=Aam hF;have h4_:=Aa2 h4;try simp at h4_
  have h3_:=h3;try simp at h3_
  have F1:=A7 h1 h1_ h2 h3 h4 h4_ h3_;try simp [F1]
  and_intros
  try any_goals first | omega | (simp [maxLen,F1] <;> omega)
  obtain ⟨v7,h5,hF⟩:=AaQ hF;refine Aa9 (AhO k _ _ _ _ _ _ _ h5) (by simp) [0,1,2] [] [] rfl (.cons (.same (by simp [F1])) (.cons (.same (by simp [F1])) (.cons (.same (by simp [F1])) (.cons (.same (by simp [F1])) .nil)))) (by simp [F1]) (by decide) (by simp) (by simp) (.inl rfl) (by simp) (by simp) ?_;try simp [F1]
  and_intros <;> first | exact GK g | apply r | omega | (simp [maxLen,F1] <;> omega)
  refine WK [(0,Q0 v0),(1,AV.fn 85 [AV.ptr 0 0,AV.ptr 1 0,AV.ptr 2 0]),(5,Iz v5),(7,Iz (v0.length : Int)),(8,Iz v5),(16,AV.bool v7)] [(0,.cells [Iz v1]),(1,.cells [Iz v2]),(2,.cells [Iz v3])] 3 (by simp [F1]) (by simp [F1]) ?_;by_cases h6 : v7=true
  ·replace hF:=Aag h6 hF;have h6_:=h6;try simp at h6_
   have F2:=A3 F1 h6 h6_;refine CT (by simp [F2] <;> omega) ?_;refine SQ [] [none,none] fun _ _ g r=>?_;try simp [F2]
   and_intros <;> first | exact GK g | apply r | omega | (simp [maxLen,F2] <;> omega)
   refine WK [(4,Iz v5)] [(0,.cells [Iz v1]),(1,.cells [Iz v2]),(2,.cells [Iz v3])] 3 (by simp [F2]) (by simp [F2]) ?_;simp only [Option.some.injEq] at hF;subst hF;refine AW.ret (hQ _ _ _ ?_ (AaI ?_)).1
   ·simp [Try.f103,F2]
   ·simp [F2]
  ·replace hF:=Aah h6 hF;have h6_:=h6;try simp at h6_
   have F3:=A3 F1 h6 h6_;refine CF (by simp [F3] <;> omega) ?_;refine AW.skip ?_;refine hK169 _ _ _ ?_;refine RG [] [none,none] fun _ _ g r=>?_;try simp [F3]
   and_intros <;> first | exact GK g | apply r | omega | (simp [maxLen,F3] <;> omega)
   refine hK163 _ _ _ ?_;exact NX (k':=n1) (IntKind.wrap .i64 (v5+1)) hF (by simp [F3]) (by simp [F3])
 ·replace hF:=Aah h1 hF;have h1_:=h1;try simp at h1_
  refine CF (by simp [h1,h1_] <;> omega) ?_;refine AW.exit ?_;try simp
  refine hK131 _ _ _ ?_;refine SQ [] [none] fun _ _ g r=>?_;try simp [h1,h1_]
  and_intros <;> first | exact GK g | apply r | omega | (simp [h1,h1_,maxLen] <;> omega)
  refine WK [(4,Iz (-1))] [(0,.cells [Iz v1]),(1,.cells [Iz v2]),(2,.cells [Iz v3])] 3 (by simp [h1,h1_]) (by simp [h1,h1_]) ?_;simp only [Option.some.injEq] at hF;subst hF;refine AW.ret (hQ _ _ _ ?_ (AaI ?_)).1
  ·simp [Try.f103,h1,h1_]
  ·simp [h1,h1_]
theorem Ab8 (k : Nat) (v0 : (List AaA)) (v1 : Int) (v2 : Int) (v3 : Int) (v4 : Bool) (hF : Aa7 k v0 v1 v2 v3=some v4) :
 AbF Try.prog 84 [Q0 v0,AV.fn 85 [AV.ptr 0 0,AV.ptr 1 0,AV.ptr 2 0]] [.cells [AV.int .i64 v1],.cells [AV.int .i64 v2],.cells [AV.int .i64 v3]] (AV.bool v4) [some (.cells [AV.int .i64 v1]),some (.cells [AV.int .i64 v2]),some (.cells [AV.int .i64 v3])]:=by
 unfold Aa7 at hF;refine EN Try.func84 ?_;intro c0 w0 Q h0 hQ
 refine WK [(0,Q0 v0),(1,AV.fn 85 [AV.ptr 0 0,AV.ptr 1 0,AV.ptr 2 0])] [(0,.cells [Iz v1]),(1,.cells [Iz v2]),(2,.cells [Iz v3])] 3 (by simp) (by simp) ?_;refine SQ [] [none] fun _ _ g r=>?_;try simp
 and_intros <;> first | exact GK g | apply r | omega | (simp [maxLen] <;> omega)
 refine WK [(0,Q0 v0),(1,AV.fn 85 [AV.ptr 0 0,AV.ptr 1 0,AV.ptr 2 0])] [(0,.cells [Iz v1]),(1,.cells [Iz v2]),(2,.cells [Iz v3])] 3 (by simp) (by simp) ?_;refine SQ [] [none,none,none,none,none] fun _ _ g r=>?_;try simp
 and_intros
 try any_goals first | omega | (simp [maxLen] <;> omega)
 obtain ⟨v5,h1,hF⟩:=AaQ hF;refine Aa9 (AcE k _ _ _ _ _ h1) (by simp) [0,1,2] [] [] rfl (.cons (.same (by simp)) (.cons (.same (by simp)) .nil)) (by simp) (by decide) (by simp) (by simp) (.inl rfl) (by simp) (by simp) ?_;try simp
 and_intros <;> first | exact GK g | apply r | omega | (simp [maxLen] <;> omega)
 refine WK [(4,AV.bool (decide (0≤v5)))] [(0,.cells [Iz v1]),(1,.cells [Iz v2]),(2,.cells [Iz v3])] 3 (by simp) (by simp) ?_;simp only [Option.some.injEq] at hF;subst hF;refine AW.ret (hQ _ _ _ ?_ (AaI ?_)).1
 ·simp [Try.f84]
 ·simp
theorem Aiq (k : Nat) (v0 : Int) (v1 : (List AaA)) (v2 : (List Int)) (v3 : Int) (v4 : Int) (v5 : Int) (v6 : Bool) (hF : AeC k v0 v1 v2 v3 v4 v5=some v6) :
 AbF Try.prog 59 [AV.agg [AV.int .i64 v0,Q0 v1,AV.lst false false (List.map (AV.int .i64) v2)],AV.int .i64 v3,AV.int .i64 v4,AV.int .i64 v5] [] (AV.bool v6) []:=by
 unfold AeC at hF;refine EN Try.func59 ?_;intro c0 w0 Q h0 hQ
 refine WK [(0,AV.agg [Iz v0,Q0 v1,Lz v2]),(1,Iz v3),(2,Iz v4),(3,Iz v5)] [] 0 (by simp) (by simp) ?_;refine SQ [] [none,none,none,none,none] fun _ _ g r=>?_;try simp
 and_intros <;> first | exact GK g | apply r | omega | (simp [maxLen] <;> omega)
 refine WK [(4,AV.ptr 0 0),(5,AV.ptr 1 0),(6,AV.ptr 2 0),(7,AV.ptr 3 0)] [(0,.cells [Iz v0,Q0 v1,Lz v2]),(1,.cells [Iz v3]),(2,.cells [Iz v4]),(3,.cells [Iz v5])] 4 (by simp) (by simp) ?_;refine SQ [] [none,none,none,none,none] fun _ _ g r=>?_;try simp
 and_intros
 try any_goals first | omega | (simp [maxLen] <;> omega)
 obtain ⟨v7,h1,hF⟩:=AaQ hF;refine Aa9 (Ab8 k _ _ _ _ _ h1) (by simp) [2,3,1] [] [] rfl (.cons (.same (by simp)) (.cons (.same (by simp)) .nil)) (by simp) (by decide) (by simp) (by simp) (.inl rfl) (by simp) (by simp) ?_;try simp
 and_intros <;> first | exact GK g | apply r | omega | (simp [maxLen] <;> omega)
 refine WK [(8,AV.bool v7)] [] 4 (by simp) (by simp) ?_;simp only [Option.some.injEq] at hF;subst hF;refine AW.ret (hQ _ _ _ ?_ (AaI ?_)).1
 ·simp [Try.f59]
 ·simp
theorem AeH (k : Nat) (v0 : Int) (v1 : (List AaA)) (v2 : (List Int)) (v3 : Int) (v4 : Int) (v5 : Int) (v6 : (List (List Int))) (v7 : Bool) (hF : AaV k v0 v1 v2 v3 v4 v5 v6=some v7) :
 AbF Try.prog 29 [AV.agg [AV.int .i64 v0,Q0 v1,AV.lst false false (List.map (AV.int .i64) v2)],AV.int .i64 v3,AV.int .i64 v4,AV.int .i64 v5,AV.lst false false (List.map (sl (AV.int .i64)) v6)] [] (AV.bool v7) []:=by
 unfold AaV at hF;refine EN Try.func29 ?_;intro c0 w0 Q h0 hQ
 refine WK [(0,AV.agg [Iz v0,Q0 v1,Lz v2]),(1,Iz v3),(2,Iz v4),(3,Iz v5),(4,AV.lst false false (List.map (sl (AV.int .i64)) v6))] [] 0 (by simp) (by simp) ?_;refine SQ [] [none,none] fun _ _ g r=>?_;try simp
 and_intros <;> first | exact GK g | apply r | omega | (simp [maxLen] <;> omega)
 refine WK [(1,Iz v3),(2,Iz v4),(3,Iz v5),(4,AV.lst false false (List.map (sl (AV.int .i64)) v6)),(5,AV.ptr 0 0)] [(0,.cells [Iz v0,Q0 v1,Lz v2])] 1 (by simp) (by simp) ?_;refine AW.seq fun K1643 hK1643=>?_;refine SQ [] [none,none,none,none,none,none] fun _ _ g r=>?_;try simp
 and_intros
 try any_goals first | omega | (simp [maxLen] <;> omega)
 obtain ⟨v8,h1,hF⟩:=AaQ hF;refine AC (AdY k _ _ _ _ _ _ _ h1) (.cons (.same (by simp)) (.cons (.same (by simp)) (.cons (.same (by simp)) (.cons (.same (by simp)) .nil)))) ?_;try simp
 and_intros <;> first | exact GK g | apply r | omega | (simp [maxLen] <;> omega)
 refine WK [(1,Iz v3),(2,Iz v4),(3,Iz v5),(4,AV.lst false false (List.map (sl (AV.int .i64)) v6)),(5,AV.ptr 0 0),(22,AV.bool (!v8))] [(0,.cells [Iz v0,Q0 v1,Lz v2])] 1 (by simp) (by simp) ?_;by_cases h2 : (!v8)=true
 ·replace hF:=Aag h2 hF;have h2_:=h2;try simp at h2_
  refine CT (by simp [h2,h2_] <;> omega) ?_;refine SQ [] [none,none,none,none] fun _ _ g r=>?_;try simp [h2,h2_]
  and_intros <;> first | exact GK g | apply r | omega | (simp [h2,h2_,maxLen] <;> omega)
  refine WK [(10,AV.bool ((v6.length : Int)==0))] [] 1 (by simp [h2,h2_]) (by simp [h2,h2_]) ?_;simp only [Option.some.injEq] at hF;subst hF;refine AW.ret (hQ _ _ _ ?_ (AaI ?_)).1
  ·simp [Try.f29,h2,h2_]
  ·simp [h2,h2_]
 ·replace hF:=Aah h2 hF;have h2_:=h2;try simp at h2_
  refine CF (by simp [h2,h2_] <;> omega) ?_;refine AW.skip ?_;refine hK1643 _ _ _ ?_;obtain ⟨h35,h36⟩:=Amh hF;refine AW.midF (α:=(List (Int×Bool))) (fun v9=>AaV.J1 k v0 v1 v2 v3 v4 v5 v6 v9=some v7) (fun v9=>[(1,Iz v3),(2,Iz v4),(3,Iz v5),(4,AV.lst false false (List.map (sl (AV.int .i64)) v6)),(5,AV.ptr 0 0),(11,AV.map 1)]) (fun v9=>[(0,.cells [Iz v0,Q0 v1,Lz v2]),(1,.mp (mpA (AV.int .i64) AV.bool v9))]) 2 (fun K3278 hK3278=>?_) ?_
  ·refine AW.anyR Ao4 [] (by kernel_rfl) fun G3277 g=>?_;refine (show Apf _ _ _ _ 7 _ _ _ _ from ?_);refine Aa6 [0,1,3] (by kernel_rfl) ?_;simp [h2,h2_,AbT,Abx]
   refine ⟨?_,?_,?_⟩
   ·refine Aa6 [1,3] (by kernel_rfl) ?_;simp [h2,h2_,AbT,Abx]
    refine ⟨?_,?_⟩
    ·refine Aa6 [2,3] (by kernel_rfl) ?_;simp [h2,h2_,AbT,Abx]
     refine ⟨?_,?_⟩
     ·refine Aa6 [3] (by kernel_rfl) ?_;simp [h2,h2_,AbT,Abx]
      refine Aa6 [4] (by kernel_rfl) ?_;simp [h2,h2_,AbT,Abx]
      refine Aa6 [5] (by kernel_rfl) ?_;simp [h2,h2_,AbT,Abx]
      refine Aa6 [6] (by kernel_rfl) ?_;simp [h2,h2_,AbT,Abx]
      exact g _ _ _ (hK3278 _ _ _ (by first | (refine Can.join (AbC (AbC ([] : (List (Int×Bool))) v4 true) v5 true) h35 ?_ ?_ ?_ <;> (simp [h2,h2_]; done)) | (refine Can.join (AbC (AbC ([] : (List (Int×Bool))) v5 true) v4 true) h36 ?_ ?_ ?_ <;> (simp [h2,h2_]; done))))
     ·refine Aa6 [2,4] (by kernel_rfl) ?_;simp [h2,h2_,AbT,Abx]
      refine ⟨?_,?_⟩
      ·refine Aa6 [4] (by kernel_rfl) ?_;simp [h2,h2_,AbT,Abx]
       refine Aa6 [5] (by kernel_rfl) ?_;simp [h2,h2_,AbT,Abx]
       refine Aa6 [6] (by kernel_rfl) ?_;simp [h2,h2_,AbT,Abx]
       exact g _ _ _ (hK3278 _ _ _ (by first | (refine Can.join (AbC (AbC ([] : (List (Int×Bool))) v4 true) v5 true) h35 ?_ ?_ ?_ <;> (simp [h2,h2_]; done)) | (refine Can.join (AbC (AbC ([] : (List (Int×Bool))) v5 true) v4 true) h36 ?_ ?_ ?_ <;> (simp [h2,h2_]; done))))
      ·refine Aa6 [2] (by kernel_rfl) ?_;simp [h2,h2_,AbT,Abx]
       refine Aa6 [5] (by kernel_rfl) ?_;simp [h2,h2_,AbT,Abx]
       refine Aa6 [6] (by kernel_rfl) ?_;simp [h2,h2_,AbT,Abx]
       exact g _ _ _ (hK3278 _ _ _ (by first | (refine Can.join (AbC (AbC ([] : (List (Int×Bool))) v4 true) v5 true) h35 ?_ ?_ ?_ <;> (simp [h2,h2_]; done)) | (refine Can.join (AbC (AbC ([] : (List (Int×Bool))) v5 true) v4 true) h36 ?_ ?_ ?_ <;> (simp [h2,h2_]; done))))
    ·refine Aa6 [1,4] (by kernel_rfl) ?_;simp [h2,h2_,AbT,Abx]
     refine ⟨?_,?_⟩
     ·refine Aa6 [2,4] (by kernel_rfl) ?_;simp [h2,h2_,AbT,Abx]
      refine ⟨?_,?_⟩
      ·refine Aa6 [4] (by kernel_rfl) ?_;simp [h2,h2_,AbT,Abx]
       refine Aa6 [5] (by kernel_rfl) ?_;simp [h2,h2_,AbT,Abx]
       refine Aa6 [6] (by kernel_rfl) ?_;simp [h2,h2_,AbT,Abx]
       exact g _ _ _ (hK3278 _ _ _ (by first | (refine Can.join (AbC (AbC ([] : (List (Int×Bool))) v4 true) v5 true) h35 ?_ ?_ ?_ <;> (simp [h2,h2_]; done)) | (refine Can.join (AbC (AbC ([] : (List (Int×Bool))) v5 true) v4 true) h36 ?_ ?_ ?_ <;> (simp [h2,h2_]; done))))
      ·refine Aa6 [2] (by kernel_rfl) ?_;simp [h2,h2_,AbT,Abx]
       refine Aa6 [5] (by kernel_rfl) ?_;simp [h2,h2_,AbT,Abx]
       refine Aa6 [6] (by kernel_rfl) ?_;simp [h2,h2_,AbT,Abx]
       exact g _ _ _ (hK3278 _ _ _ (by first | (refine Can.join (AbC (AbC ([] : (List (Int×Bool))) v4 true) v5 true) h35 ?_ ?_ ?_ <;> (simp [h2,h2_]; done)) | (refine Can.join (AbC (AbC ([] : (List (Int×Bool))) v5 true) v4 true) h36 ?_ ?_ ?_ <;> (simp [h2,h2_]; done))))
     ·refine Aa6 [1] (by kernel_rfl) ?_;simp [h2,h2_,AbT,Abx]
      refine Aa6 [2] (by kernel_rfl) ?_;simp [h2,h2_,AbT,Abx]
      refine Aa6 [5] (by kernel_rfl) ?_;simp [h2,h2_,AbT,Abx]
      refine Aa6 [6] (by kernel_rfl) ?_;simp [h2,h2_,AbT,Abx]
      exact g _ _ _ (hK3278 _ _ _ (by first | (refine Can.join (AbC (AbC ([] : (List (Int×Bool))) v4 true) v5 true) h35 ?_ ?_ ?_ <;> (simp [h2,h2_]; done)) | (refine Can.join (AbC (AbC ([] : (List (Int×Bool))) v5 true) v4 true) h36 ?_ ?_ ?_ <;> (simp [h2,h2_]; done))))
   ·refine Aa6 [0,3] (by kernel_rfl) ?_;simp [h2,h2_,AbT,Abx]
    refine ⟨?_,?_⟩
    ·refine Aa6 [2,3] (by kernel_rfl) ?_;simp [h2,h2_,AbT,Abx]
     refine ⟨?_,?_⟩
     ·refine Aa6 [3] (by kernel_rfl) ?_;simp [h2,h2_,AbT,Abx]
      refine Aa6 [4] (by kernel_rfl) ?_;simp [h2,h2_,AbT,Abx]
      refine Aa6 [5] (by kernel_rfl) ?_;simp [h2,h2_,AbT,Abx]
      refine Aa6 [6] (by kernel_rfl) ?_;simp [h2,h2_,AbT,Abx]
      exact g _ _ _ (hK3278 _ _ _ (by first | (refine Can.join (AbC (AbC ([] : (List (Int×Bool))) v4 true) v5 true) h35 ?_ ?_ ?_ <;> (simp [h2,h2_]; done)) | (refine Can.join (AbC (AbC ([] : (List (Int×Bool))) v5 true) v4 true) h36 ?_ ?_ ?_ <;> (simp [h2,h2_]; done))))
     ·refine Aa6 [2,4] (by kernel_rfl) ?_;simp [h2,h2_,AbT,Abx]
      refine ⟨?_,?_⟩
      ·refine Aa6 [4] (by kernel_rfl) ?_;simp [h2,h2_,AbT,Abx]
       refine Aa6 [5] (by kernel_rfl) ?_;simp [h2,h2_,AbT,Abx]
       refine Aa6 [6] (by kernel_rfl) ?_;simp [h2,h2_,AbT,Abx]
       exact g _ _ _ (hK3278 _ _ _ (by first | (refine Can.join (AbC (AbC ([] : (List (Int×Bool))) v4 true) v5 true) h35 ?_ ?_ ?_ <;> (simp [h2,h2_]; done)) | (refine Can.join (AbC (AbC ([] : (List (Int×Bool))) v5 true) v4 true) h36 ?_ ?_ ?_ <;> (simp [h2,h2_]; done))))
      ·refine Aa6 [2] (by kernel_rfl) ?_;simp [h2,h2_,AbT,Abx]
       refine Aa6 [5] (by kernel_rfl) ?_;simp [h2,h2_,AbT,Abx]
       refine Aa6 [6] (by kernel_rfl) ?_;simp [h2,h2_,AbT,Abx]
       exact g _ _ _ (hK3278 _ _ _ (by first | (refine Can.join (AbC (AbC ([] : (List (Int×Bool))) v4 true) v5 true) h35 ?_ ?_ ?_ <;> (simp [h2,h2_]; done)) | (refine Can.join (AbC (AbC ([] : (List (Int×Bool))) v5 true) v4 true) h36 ?_ ?_ ?_ <;> (simp [h2,h2_]; done))))
    ·refine Aa6 [0] (by kernel_rfl) ?_;simp [h2,h2_,AbT,Abx]
     refine Aa6 [2,4] (by kernel_rfl) ?_;simp [h2,h2_,AbT,Abx]
     refine ⟨?_,?_⟩
     ·refine Aa6 [4] (by kernel_rfl) ?_;simp [h2,h2_,AbT,Abx]
      refine Aa6 [5] (by kernel_rfl) ?_;simp [h2,h2_,AbT,Abx]
      refine Aa6 [6] (by kernel_rfl) ?_;simp [h2,h2_,AbT,Abx]
      exact g _ _ _ (hK3278 _ _ _ (by first | (refine Can.join (AbC (AbC ([] : (List (Int×Bool))) v4 true) v5 true) h35 ?_ ?_ ?_ <;> (simp [h2,h2_]; done)) | (refine Can.join (AbC (AbC ([] : (List (Int×Bool))) v5 true) v4 true) h36 ?_ ?_ ?_ <;> (simp [h2,h2_]; done))))
     ·refine Aa6 [2] (by kernel_rfl) ?_;simp [h2,h2_,AbT,Abx]
      refine Aa6 [5] (by kernel_rfl) ?_;simp [h2,h2_,AbT,Abx]
      refine Aa6 [6] (by kernel_rfl) ?_;simp [h2,h2_,AbT,Abx]
      exact g _ _ _ (hK3278 _ _ _ (by first | (refine Can.join (AbC (AbC ([] : (List (Int×Bool))) v4 true) v5 true) h35 ?_ ?_ ?_ <;> (simp [h2,h2_]; done)) | (refine Can.join (AbC (AbC ([] : (List (Int×Bool))) v5 true) v4 true) h36 ?_ ?_ ?_ <;> (simp [h2,h2_]; done))))
   ·refine Aa6 [0,1] (by kernel_rfl) ?_;simp [h2,h2_,AbT,Abx]
    refine ⟨?_,?_⟩
    ·refine Aa6 [1,4] (by kernel_rfl) ?_;simp [h2,h2_,AbT,Abx]
     refine ⟨?_,?_⟩
     ·refine Aa6 [2,4] (by kernel_rfl) ?_;simp [h2,h2_,AbT,Abx]
      refine ⟨?_,?_⟩
      ·refine Aa6 [4] (by kernel_rfl) ?_;simp [h2,h2_,AbT,Abx]
       refine Aa6 [5] (by kernel_rfl) ?_;simp [h2,h2_,AbT,Abx]
       refine Aa6 [6] (by kernel_rfl) ?_;simp [h2,h2_,AbT,Abx]
       exact g _ _ _ (hK3278 _ _ _ (by first | (refine Can.join (AbC (AbC ([] : (List (Int×Bool))) v4 true) v5 true) h35 ?_ ?_ ?_ <;> (simp [h2,h2_]; done)) | (refine Can.join (AbC (AbC ([] : (List (Int×Bool))) v5 true) v4 true) h36 ?_ ?_ ?_ <;> (simp [h2,h2_]; done))))
      ·refine Aa6 [2] (by kernel_rfl) ?_;simp [h2,h2_,AbT,Abx]
       refine Aa6 [5] (by kernel_rfl) ?_;simp [h2,h2_,AbT,Abx]
       refine Aa6 [6] (by kernel_rfl) ?_;simp [h2,h2_,AbT,Abx]
       exact g _ _ _ (hK3278 _ _ _ (by first | (refine Can.join (AbC (AbC ([] : (List (Int×Bool))) v4 true) v5 true) h35 ?_ ?_ ?_ <;> (simp [h2,h2_]; done)) | (refine Can.join (AbC (AbC ([] : (List (Int×Bool))) v5 true) v4 true) h36 ?_ ?_ ?_ <;> (simp [h2,h2_]; done))))
     ·refine Aa6 [1] (by kernel_rfl) ?_;simp [h2,h2_,AbT,Abx]
      refine Aa6 [2] (by kernel_rfl) ?_;simp [h2,h2_,AbT,Abx]
      refine Aa6 [5] (by kernel_rfl) ?_;simp [h2,h2_,AbT,Abx]
      refine Aa6 [6] (by kernel_rfl) ?_;simp [h2,h2_,AbT,Abx]
      exact g _ _ _ (hK3278 _ _ _ (by first | (refine Can.join (AbC (AbC ([] : (List (Int×Bool))) v4 true) v5 true) h35 ?_ ?_ ?_ <;> (simp [h2,h2_]; done)) | (refine Can.join (AbC (AbC ([] : (List (Int×Bool))) v5 true) v4 true) h36 ?_ ?_ ?_ <;> (simp [h2,h2_]; done))))
    ·refine Aa6 [0] (by kernel_rfl) ?_;simp [h2,h2_,AbT,Abx]
     refine Aa6 [2,4] (by kernel_rfl) ?_;simp [h2,h2_,AbT,Abx]
     refine ⟨?_,?_⟩
     ·refine Aa6 [4] (by kernel_rfl) ?_;simp [h2,h2_,AbT,Abx]
      refine Aa6 [5] (by kernel_rfl) ?_;simp [h2,h2_,AbT,Abx]
      refine Aa6 [6] (by kernel_rfl) ?_;simp [h2,h2_,AbT,Abx]
      exact g _ _ _ (hK3278 _ _ _ (by first | (refine Can.join (AbC (AbC ([] : (List (Int×Bool))) v4 true) v5 true) h35 ?_ ?_ ?_ <;> (simp [h2,h2_]; done)) | (refine Can.join (AbC (AbC ([] : (List (Int×Bool))) v5 true) v4 true) h36 ?_ ?_ ?_ <;> (simp [h2,h2_]; done))))
     ·refine Aa6 [2] (by kernel_rfl) ?_;simp [h2,h2_,AbT,Abx]
      refine Aa6 [5] (by kernel_rfl) ?_;simp [h2,h2_,AbT,Abx]
      refine Aa6 [6] (by kernel_rfl) ?_;simp [h2,h2_,AbT,Abx]
      exact g _ _ _ (hK3278 _ _ _ (by first | (refine Can.join (AbC (AbC ([] : (List (Int×Bool))) v4 true) v5 true) h35 ?_ ?_ ?_ <;> (simp [h2,h2_]; done)) | (refine Can.join (AbC (AbC ([] : (List (Int×Bool))) v5 true) v4 true) h36 ?_ ?_ ?_ <;> (simp [h2,h2_]; done))))
  ·rintro v9 hF
   try dsimp only at hF
   unfold AaV.J1 at hF;refine SQ [] [none] fun _ _ g r=>?_;try simp [h2,h2_]
   and_intros <;> first | exact GK g | apply r | omega | (simp [h2,h2_,maxLen] <;> omega)
   refine WK [(1,Iz v3),(2,Iz v4),(3,Iz v5),(4,AV.lst false false (List.map (sl (AV.int .i64)) v6)),(5,AV.ptr 0 0),(11,AV.map 1),(12,AV.bool false)] [(0,.cells [Iz v0,Q0 v1,Lz v2]),(1,.mp (mpA (AV.int .i64) AV.bool v9))] 2 (by simp [h2,h2_]) (by simp [h2,h2_]) ?_;refine AW.seq fun K2461 hK2461=>?_;refine SQ [] [none,none,none] fun _ _ g r=>?_;try simp [h2,h2_]
   and_intros <;> first | exact GK g | apply r | omega | (simp [h2,h2_,maxLen] <;> omega)
   refine WK [(1,Iz v3),(2,Iz v4),(3,Iz v5),(5,AV.ptr 0 0),(11,AV.map 1),(12,AV.bool false),(30,AV.lst false false (List.map (sl (AV.int .i64)) v6)),(31,Iz (v6.length : Int)),(32,Iz 0)] [(0,.cells [Iz v0,Q0 v1,Lz v2]),(1,.mp (mpA (AV.int .i64) AV.bool v9))] 2 (by simp [h2,h2_]) (by simp [h2,h2_]) ?_;refine AW.block ?_;refine AW.loopF (α:=(Bool×Int×(List (Int×Bool)))) (fun n (v10,v11,v12)=>AaV.L2 k v0 v1 v2 v3 v4 v5 v6 n v10 v11 v12=some v7) (fun (v10,v11,v12)=>[(1,Iz v3),(2,Iz v4),(3,Iz v5),(5,AV.ptr 0 0),(11,AV.map 1),(12,AV.bool v10),(30,AV.lst false false (List.map (sl (AV.int .i64)) v6)),(31,Iz (v6.length : Int)),(32,Iz v11)]) (fun (v10,v11,v12)=>[(0,.cells [Iz v0,Q0 v1,Lz v2]),(1,.mp (mpA (AV.int .i64) AV.bool v12))]) 2 k ((false,0,v9)) hF (by simp [h2,h2_]) (by simp [h2,h2_]) (by simp) ?_;rintro (_|n2) ⟨v10,v11,v12⟩ hF K3069 hK3069
   ·try dsimp only at hF
    rw [AaV.L2] at hF; cases hF
   try dsimp only at hF
   rw [AaV.L2] at hF;refine SQ [] [none] fun _ _ g r=>?_;try simp [h2,h2_]
   and_intros <;> first | exact GK g | apply r | omega | (simp [h2,h2_,maxLen] <;> omega)
   refine WK [(1,Iz v3),(2,Iz v4),(3,Iz v5),(5,AV.ptr 0 0),(11,AV.map 1),(12,AV.bool v10),(30,AV.lst false false (List.map (sl (AV.int .i64)) v6)),(31,Iz (v6.length : Int)),(32,Iz v11),(33,AV.bool (decide (v11<(v6.length : Int))))] [(0,.cells [Iz v0,Q0 v1,Lz v2]),(1,.mp (mpA (AV.int .i64) AV.bool v12))] 2 (by simp [h2,h2_]) (by simp [h2,h2_]) ?_;refine AW.seq fun K3071 hK3071=>?_;by_cases h3 : v11<(v6.length : Int)
   ·replace hF:=Aag h3 hF;have h3_:=h3;try simp at h3_
    have F1:=A4 h2 h2_ h3 h3_;refine CT (by simp [F1] <;> omega) ?_;refine AW.skip ?_;refine hK3071 _ _ _ ?_;refine AW.seq fun K3173 hK3173=>?_;refine AW.block ?_;refine SQ [] [none,none,none] fun _ _ g r=>?_;obtain ⟨v13,h4,h5,h6,hF⟩:=Aam hF;have h6_:=Aa2 h6;try simp at h6_
    have h5_:=h5;try simp at h5_
    have F2:=A6 F1 h4 h5 h6 h6_ h5_;try simp [F2]
    and_intros <;> first | exact GK g | apply r | omega | (simp [maxLen,F2] <;> omega)
    refine WK [(1,Iz v3),(2,Iz v4),(3,Iz v5),(5,AV.ptr 0 0),(11,AV.map 1),(12,AV.bool v10),(14,Lz v13),(30,AV.lst false false (List.map (sl (AV.int .i64)) v6)),(31,Iz (v6.length : Int)),(32,Iz v11)] [(0,.cells [Iz v0,Q0 v1,Lz v2]),(1,.mp (mpA (AV.int .i64) AV.bool v12))] 2 (by simp [F2]) (by simp [F2]) ?_;refine SQ [] [none,none,none] fun _ _ g r=>?_;try simp [F2]
    and_intros <;> first | exact GK g | apply r | omega | (simp [maxLen,F2] <;> omega)
    refine WK [(1,Iz v3),(2,Iz v4),(3,Iz v5),(5,AV.ptr 0 0),(11,AV.map 1),(12,AV.bool v10),(14,Lz v13),(15,Iz (v13.length : Int)),(30,AV.lst false false (List.map (sl (AV.int .i64)) v6)),(31,Iz (v6.length : Int)),(32,Iz v11)] [(0,.cells [Iz v0,Q0 v1,Lz v2]),(1,.mp (mpA (AV.int .i64) AV.bool v12))] 2 (by simp [F2]) (by simp [F2]) ?_;refine AW.midF (α:=Unit) (fun _=>AaV.J3 k v0 v1 v2 v3 v10 v11 v12 v13 (fun v10_ v11_ v12_=>AaV.L2 k v0 v1 v2 v3 v4 v5 v6 n2 v10_ v11_ v12_)=some v7) (fun _=>[(1,Iz v3),(2,Iz v4),(3,Iz v5),(5,AV.ptr 0 0),(11,AV.map 1),(12,AV.bool v10),(14,Lz v13),(15,Iz (v13.length : Int)),(30,AV.lst false false (List.map (sl (AV.int .i64)) v6)),(31,Iz (v6.length : Int)),(32,Iz v11)]) (fun _=>[(0,.cells [Iz v0,Q0 v1,Lz v2]),(1,.mp (mpA (AV.int .i64) AV.bool v12))]) 2 (fun K3270 hK3270=>?_) ?_
    ·refine SQ [] [none,none,none,some (40,false),some (40,false),some (40,false),some (40,false),some (40,false),none,none,some (47,false),some (47,false),some (47,false),some (47,false),some (47,false),some (47,false),some (47,false),none,none,some (56,false),some (56,false),some (56,false),some (59,true),some (56,false),none] fun _ _ g r=>?_;by_cases h24 : (v13.length : Int)<2
     ·replace hF:=Aag h24 hF;have h24_:=h24;try simp at h24_
      have F3:=A3 F2 h24 h24_;try simp [F3]
      and_intros <;> first | exact GK g | apply r | omega | (simp [maxLen,F3] <;> omega)
      refine WK [(1,Iz v3),(2,Iz v4),(3,Iz v5),(5,AV.ptr 0 0),(11,AV.map 1),(12,AV.bool v10),(14,Lz v13),(15,Iz (v13.length : Int)),(30,AV.lst false false (List.map (sl (AV.int .i64)) v6)),(31,Iz (v6.length : Int)),(32,Iz v11),(62,AV.bool true)] [(0,.cells [Iz v0,Q0 v1,Lz v2]),(1,.mp (mpA (AV.int .i64) AV.bool v12))] 2 (by simp [F3]) (by simp [F3]) ?_;refine CT (by simp [F3]) ?_;refine SQ [] [none] fun _ _ g r=>?_;try simp [F3]
      and_intros <;> first | exact GK g | apply r | omega | (simp [maxLen,F3] <;> omega)
      refine WK [(10,AV.bool false)] [] 2 (by simp [F3]) (by simp [F3]) ?_;simp only [Option.some.injEq] at hF;subst hF;refine AW.ret (hQ _ _ _ ?_ (AaI ?_)).1
      ·simp [Try.f29,F3]
      ·simp [F3]
     ·replace hF:=Aah h24 hF;have h24_:=h24;try simp at h24_
      obtain ⟨v22,h25,h26,h27,hF⟩:=Aam hF;have h27_:=Aa2 h27;try simp at h27_
      have h26_:=h26;try simp at h26_
      have h27z:=AkL h27;by_cases h28 : v22≠v4
      ·replace hF:=Aag h28 hF;have h28_:=Abg h28;have h28__:=Abi h28;have F4:=A9 F2 h24 h24_ h25 h26 h27 h27_ h26_ (A4 h27z h28 h28_ h28__);try simp [F4]
       and_intros <;> first | exact GK g | apply r | omega | (simp [maxLen,F4] <;> omega)
       refine WK [(1,Iz v3),(2,Iz v4),(3,Iz v5),(5,AV.ptr 0 0),(11,AV.map 1),(12,AV.bool v10),(14,Lz v13),(15,Iz (v13.length : Int)),(30,AV.lst false false (List.map (sl (AV.int .i64)) v6)),(31,Iz (v6.length : Int)),(32,Iz v11),(62,AV.bool true)] [(0,.cells [Iz v0,Q0 v1,Lz v2]),(1,.mp (mpA (AV.int .i64) AV.bool v12))] 2 (by simp [F4]) (by simp [F4]) ?_;refine CT (by simp [F4]) ?_;refine SQ [] [none] fun _ _ g r=>?_;try simp [F4]
       and_intros <;> first | exact GK g | apply r | omega | (simp [maxLen,F4] <;> omega)
       refine WK [(10,AV.bool false)] [] 2 (by simp [F4]) (by simp [F4]) ?_;simp only [Option.some.injEq] at hF;subst hF;refine AW.ret (hQ _ _ _ ?_ (AaI ?_)).1
       ·simp [Try.f29,F4]
       ·simp [F4]
      ·replace hF:=Aah h28 hF;have h28q : v22=v4:=Classical.not_not.1 h28;have h28_:=Abm h28q;have h28__:=Abl h28q;obtain ⟨v23,h29,h30,h31,hF⟩:=Aam hF;have h31_:=Aa2 h31;try simp at h31_
       have h30_:=h30;try simp at h30_
       by_cases h32 : v23≠v5
       ·replace hF:=Aag h32 hF;have h32_:=Abg h32;have h32__:=Abi h32;have F5:=A9 F2 h24 h24_ h25 h26 h27 h27_ h26_ (A9 h27z h28_ h28__ h29 h30 h31 h31_ h30_ (A3 h32 h32_ h32__));try simp [F5]
        and_intros <;> first | exact GK g | apply r | omega | (simp [maxLen,F5] <;> omega)
        refine WK [(1,Iz v3),(2,Iz v4),(3,Iz v5),(5,AV.ptr 0 0),(11,AV.map 1),(12,AV.bool v10),(14,Lz v13),(15,Iz (v13.length : Int)),(30,AV.lst false false (List.map (sl (AV.int .i64)) v6)),(31,Iz (v6.length : Int)),(32,Iz v11),(62,AV.bool true)] [(0,.cells [Iz v0,Q0 v1,Lz v2]),(1,.mp (mpA (AV.int .i64) AV.bool v12))] 2 (by simp [F5]) (by simp [F5]) ?_;refine CT (by simp [F5]) ?_;refine SQ [] [none] fun _ _ g r=>?_;try simp [F5]
        and_intros <;> first | exact GK g | apply r | omega | (simp [maxLen,F5] <;> omega)
        refine WK [(10,AV.bool false)] [] 2 (by simp [F5]) (by simp [F5]) ?_;simp only [Option.some.injEq] at hF;subst hF;refine AW.ret (hQ _ _ _ ?_ (AaI ?_)).1
        ·simp [Try.f29,F5]
        ·simp [F5]
       ·replace hF:=Aah h32 hF;have h32q : v23=v5:=Classical.not_not.1 h32;have h32_:=Abm h32q;have h32__:=Abl h32q;by_cases h33 : (v13.length : Int)=2
        ·replace hF:=Aag h33 hF;have h33q : (v13.length : Int)=2:=h33;have h33_:=Abm h33q;have h33__:=Abl h33q;have F6:=A9 F2 h24 h24_ h25 h26 h27 h27_ h26_ (A9 h27z h28_ h28__ h29 h30 h31 h31_ h30_ (A4 h32_ h32__ h33_ h33__));try simp [F6]
         and_intros <;> first | exact GK g | apply r | omega | (simp [maxLen,F6] <;> omega)
         refine WK [(1,Iz v3),(2,Iz v4),(3,Iz v5),(5,AV.ptr 0 0),(11,AV.map 1),(12,AV.bool v10),(14,Lz v13),(15,Iz (v13.length : Int)),(30,AV.lst false false (List.map (sl (AV.int .i64)) v6)),(31,Iz (v6.length : Int)),(32,Iz v11),(62,AV.bool v10)] [(0,.cells [Iz v0,Q0 v1,Lz v2]),(1,.mp (mpA (AV.int .i64) AV.bool v12))] 2 (by simp [F6]) (by simp [F6]) ?_;by_cases h34 : v10=true
         ·replace hF:=Aag h34 hF;have h34_:=h34;try simp at h34_
          have F7:=A3 F6 h34 h34_;refine CT (by simp [F7] <;> omega) ?_;refine SQ [] [none] fun _ _ g r=>?_;try simp [F7]
          and_intros <;> first | exact GK g | apply r | omega | (simp [maxLen,F7] <;> omega)
          refine WK [(10,AV.bool false)] [] 2 (by simp [F7]) (by simp [F7]) ?_;simp only [Option.some.injEq] at hF;subst hF;refine AW.ret (hQ _ _ _ ?_ (AaI ?_)).1
          ·simp [Try.f29,F7]
          ·simp [F7]
         ·replace hF:=Aah h34 hF;have h34_:=h34;try simp at h34_
          have F8:=A3 F6 h34 h34_;refine CF (by simp [F8] <;> omega) ?_;refine AW.skip ?_;refine hK3270 _ _ _ ?_;exact JN (()) hF (by simp [F8]) (by simp [F8])
        ·replace hF:=Aah h33 hF;have h33_:=Abg h33;have h33__:=Abi h33;have F9:=A9 F2 h24 h24_ h25 h26 h27 h27_ h26_ (A9 h27z h28_ h28__ h29 h30 h31 h31_ h30_ (A5 h32_ h32__ h33 h33_ h33__));try simp [F9]
         and_intros <;> first | exact GK g | apply r | omega | (simp [maxLen,F9] <;> omega)
         refine WK [(1,Iz v3),(2,Iz v4),(3,Iz v5),(5,AV.ptr 0 0),(11,AV.map 1),(12,AV.bool v10),(14,Lz v13),(15,Iz (v13.length : Int)),(30,AV.lst false false (List.map (sl (AV.int .i64)) v6)),(31,Iz (v6.length : Int)),(32,Iz v11),(62,AV.bool false)] [(0,.cells [Iz v0,Q0 v1,Lz v2]),(1,.mp (mpA (AV.int .i64) AV.bool v12))] 2 (by simp [F9]) (by simp [F9]) ?_;refine CF (by simp [F9]) ?_;refine AW.skip ?_;refine hK3270 _ _ _ ?_;exact JN (()) hF (by simp [F9]) (by simp [F9])
    ·rintro ⟨⟩ hF
     try dsimp only at hF
     unfold AaV.J3 at hF;refine AW.midF (α:=Bool) (fun v14=>AaV.J4 k v0 v1 v2 v3 v11 v12 v13 (fun v10_ v11_ v12_=>AaV.L2 k v0 v1 v2 v3 v4 v5 v6 n2 v10_ v11_ v12_) v14=some v7) (fun v14=>[(1,Iz v3),(2,Iz v4),(3,Iz v5),(5,AV.ptr 0 0),(11,AV.map 1),(12,AV.bool v14),(14,Lz v13),(15,Iz (v13.length : Int)),(30,AV.lst false false (List.map (sl (AV.int .i64)) v6)),(31,Iz (v6.length : Int)),(32,Iz v11)]) (fun v14=>[(0,.cells [Iz v0,Q0 v1,Lz v2]),(1,.mp (mpA (AV.int .i64) AV.bool v12))]) 2 (fun K3269 hK3269=>?_) ?_
     ·refine RG [] [none,none,some (64,false),some (64,false),none,none] fun _ _ g r=>?_;by_cases h23 : v10=true
      ·replace hF:=Aag h23 hF;have h23_:=h23;try simp at h23_
       have F10:=A3 F2 h23 h23_;try simp [F10]
       and_intros <;> first | exact GK g | apply r | omega | (simp [maxLen,F10] <;> omega)
       refine hK3269 _ _ _ ?_;exact JN (true) hF (by simp [F10]) (by simp [F10])
      ·replace hF:=Aah h23 hF;have h23_:=h23;try simp at h23_
       have F11:=A3 F2 h23 h23_;try simp [F11]
       and_intros <;> first | exact GK g | apply r | omega | (simp [maxLen,F11] <;> omega)
       refine hK3269 _ _ _ ?_;exact JN (((v13.length : Int)==2)) hF (by simp [F11]) (by simp [F11])
     ·rintro v14 hF
      try dsimp only at hF
      unfold AaV.J4 at hF;refine SQ [] [none] fun _ _ g r=>?_;try simp [F2]
      and_intros <;> first | exact GK g | apply r | omega | (simp [maxLen,F2] <;> omega)
      refine WK [(1,Iz v3),(2,Iz v4),(3,Iz v5),(5,AV.ptr 0 0),(11,AV.map 1),(12,AV.bool v14),(14,Lz v13),(15,Iz (v13.length : Int)),(16,Iz 1),(30,AV.lst false false (List.map (sl (AV.int .i64)) v6)),(31,Iz (v6.length : Int)),(32,Iz v11)] [(0,.cells [Iz v0,Q0 v1,Lz v2]),(1,.mp (mpA (AV.int .i64) AV.bool v12))] 2 (by simp [F2]) (by simp [F2]) ?_;refine AW.block ?_;refine AW.loopF (α:=(Int×(List (Int×Bool)))) (fun n (v15,v16)=>AaV.L5 k v0 v1 v2 v3 v11 v13 v14 (fun v10_ v11_ v12_=>AaV.L2 k v0 v1 v2 v3 v4 v5 v6 n2 v10_ v11_ v12_) n v15 v16=some v7) (fun (v15,v16)=>[(1,Iz v3),(2,Iz v4),(3,Iz v5),(5,AV.ptr 0 0),(11,AV.map 1),(12,AV.bool v14),(14,Lz v13),(15,Iz (v13.length : Int)),(16,Iz v15),(30,AV.lst false false (List.map (sl (AV.int .i64)) v6)),(31,Iz (v6.length : Int)),(32,Iz v11)]) (fun (v15,v16)=>[(0,.cells [Iz v0,Q0 v1,Lz v2]),(1,.mp (mpA (AV.int .i64) AV.bool v16))]) 2 k ((1,v12)) hF (by simp [F2]) (by simp [F2]) (by simp) ?_;rintro (_|n5) ⟨v15,v16⟩ hF K3246 hK3246
      ·try dsimp only at hF
       rw [AaV.L5] at hF; cases hF
      try dsimp only at hF
      rw [AaV.L5] at hF;refine AW.seq fun K3248 hK3248=>?_;refine SQ [] [none,none,none] fun _ _ g r=>?_;try simp [F2]
      and_intros <;> first | exact GK g | apply r | omega | (simp [maxLen,F2] <;> omega)
      refine WK [(1,Iz v3),(2,Iz v4),(3,Iz v5),(5,AV.ptr 0 0),(11,AV.map 1),(12,AV.bool v14),(14,Lz v13),(15,Iz (v13.length : Int)),(16,Iz v15),(30,AV.lst false false (List.map (sl (AV.int .i64)) v6)),(31,Iz (v6.length : Int)),(32,Iz v11),(70,AV.bool (decide (v15<(v13.length : Int))))] [(0,.cells [Iz v0,Q0 v1,Lz v2]),(1,.mp (mpA (AV.int .i64) AV.bool v16))] 2 (by simp [F2]) (by simp [F2]) ?_;by_cases h7 : v15<(v13.length : Int)
      ·replace hF:=Aag h7 hF;have h7_:=h7;try simp at h7_
       have F12:=A3 F2 h7 h7_;refine CT (by simp [F12] <;> omega) ?_;refine AW.skip ?_;refine hK3248 _ _ _ ?_;refine AW.seq fun K3258 hK3258=>?_;refine AW.block ?_;refine AW.midF (α:=Unit) (fun _=>AaV.J6 k v13 v15 v16 (fun v15_ v16_=>AaV.L5 k v0 v1 v2 v3 v11 v13 v14 (fun v10_ v11_ v12_=>AaV.L2 k v0 v1 v2 v3 v4 v5 v6 n2 v10_ v11_ v12_) n5 v15_ v16_)=some v7) (fun _=>[(1,Iz v3),(2,Iz v4),(3,Iz v5),(5,AV.ptr 0 0),(11,AV.map 1),(12,AV.bool v14),(14,Lz v13),(15,Iz (v13.length : Int)),(16,Iz v15),(30,AV.lst false false (List.map (sl (AV.int .i64)) v6)),(31,Iz (v6.length : Int)),(32,Iz v11)]) (fun _=>[(0,.cells [Iz v0,Q0 v1,Lz v2]),(1,.mp (mpA (AV.int .i64) AV.bool v16))]) 2 (fun K3264 hK3264=>?_) ?_
       ·refine SQ [] [none,none,none,none,none,none,none,none,none,none,none,none,none,none,some (86,false),some (86,false),some (86,false),some (86,false),some (86,false),some (91,true),some (91,true),some (91,true),some (91,true),some (91,true),some (91,true),some (86,false),none] fun _ _ g r=>?_;obtain ⟨v18,h11,h12,h13,hF⟩:=Aam hF;have h13_:=Aa2 h13;try simp at h13_
        have h12_:=h12;try simp at h12_
        obtain ⟨v19,h14,h15,h16,hF⟩:=Aam hF;have h16_:=Aa2 h16;try simp at h16_
        have h15_:=h15;try simp at h15_
        have F13:=A9 F12 h11 h12 h13 h13_ h12_ h14 h15 (A3 h16 h16_ h15_);try simp [F13]
        and_intros
        try any_goals first | omega | (simp [maxLen,F13] <;> omega)
        obtain ⟨v20,h17,hF⟩:=AaQ hF;refine AC (Aiq k _ _ _ _ _ _ _ h17) (.cons (.same (by simp [F13])) (.cons (.same (by simp [F13])) (.cons (.same (by simp [F13])) (.cons (.same (by simp [F13])) .nil)))) ?_;by_cases h18 : (!v20)=true
        ·replace hF:=Aag h18 hF;have h18_:=h18;try simp at h18_
         have F14:=A3 F13 h18 h18_;try simp [F14]
         and_intros <;> first | exact GK g | apply r | omega | (simp [maxLen,F14] <;> omega)
         refine WK [(1,Iz v3),(2,Iz v4),(3,Iz v5),(5,AV.ptr 0 0),(11,AV.map 1),(12,AV.bool v14),(14,Lz v13),(15,Iz (v13.length : Int)),(16,Iz v15),(30,AV.lst false false (List.map (sl (AV.int .i64)) v6)),(31,Iz (v6.length : Int)),(32,Iz v11),(99,AV.bool true)] [(0,.cells [Iz v0,Q0 v1,Lz v2]),(1,.mp (mpA (AV.int .i64) AV.bool v16))] 2 (by simp [F14]) (by simp [F14]) ?_;refine CT (by simp [F14]) ?_;refine SQ [] [none] fun _ _ g r=>?_;try simp [F14]
         and_intros <;> first | exact GK g | apply r | omega | (simp [maxLen,F14] <;> omega)
         refine WK [(10,AV.bool false)] [] 2 (by simp [F14]) (by simp [F14]) ?_;simp only [Option.some.injEq] at hF;subst hF;refine AW.ret (hQ _ _ _ ?_ (AaI ?_)).1
         ·simp [Try.f29,F14]
         ·simp [F14]
        ·replace hF:=Aah h18 hF;have h18_:=h18;try simp at h18_
         by_cases h19 : v15<IntKind.wrap .i64 ((v13.length : Int)-1)
         ·replace hF:=Aag h19 hF;have h19_:=h19;try simp at h19_
          rcases Ab1 hF with ⟨v21,h20,hF⟩ | ⟨h21,hF⟩
          ·have F15:=A6 F13 h18 h18_ h19 h19_ h20;try simp [F15]
           and_intros <;> first | exact GK g | apply r | omega | (simp [maxLen,F15] <;> omega)
           refine WK [(1,Iz v3),(2,Iz v4),(3,Iz v5),(5,AV.ptr 0 0),(11,AV.map 1),(12,AV.bool v14),(14,Lz v13),(15,Iz (v13.length : Int)),(16,Iz v15),(30,AV.lst false false (List.map (sl (AV.int .i64)) v6)),(31,Iz (v6.length : Int)),(32,Iz v11),(99,AV.bool v21)] [(0,.cells [Iz v0,Q0 v1,Lz v2]),(1,.mp (mpA (AV.int .i64) AV.bool v16))] 2 (by simp [F15]) (by simp [F15]) ?_;by_cases h22 : v21=true
           ·replace hF:=Aag h22 hF;have h22_:=h22;try simp at h22_
            have F16:=A3 F15 h22 h22_;refine CT (by simp [F16] <;> omega) ?_;refine SQ [] [none] fun _ _ g r=>?_;try simp [F16]
            and_intros <;> first | exact GK g | apply r | omega | (simp [maxLen,F16] <;> omega)
            refine WK [(10,AV.bool false)] [] 2 (by simp [F16]) (by simp [F16]) ?_;simp only [Option.some.injEq] at hF;subst hF;refine AW.ret (hQ _ _ _ ?_ (AaI ?_)).1
            ·simp [Try.f29,F16]
            ·simp [F16]
           ·replace hF:=Aah h22 hF;have h22_:=h22;try simp at h22_
            have F17:=A3 F15 h22 h22_;refine CF (by simp [F17] <;> omega) ?_;refine AW.skip ?_;refine hK3264 _ _ _ ?_;exact JN (()) hF (by simp [F17]) (by simp [F17])
          ·have F18:=A6 F13 h18 h18_ h19 h19_ h21;try simp [F18]
           and_intros <;> first | exact GK g | apply r | omega | (simp [maxLen,F18] <;> omega)
           refine WK [(1,Iz v3),(2,Iz v4),(3,Iz v5),(5,AV.ptr 0 0),(11,AV.map 1),(12,AV.bool v14),(14,Lz v13),(15,Iz (v13.length : Int)),(16,Iz v15),(30,AV.lst false false (List.map (sl (AV.int .i64)) v6)),(31,Iz (v6.length : Int)),(32,Iz v11),(99,AV.bool false)] [(0,.cells [Iz v0,Q0 v1,Lz v2]),(1,.mp (mpA (AV.int .i64) AV.bool v16))] 2 (by simp [F18]) (by simp [F18]) ?_;refine CF (by simp [F18]) ?_;refine AW.skip ?_;refine hK3264 _ _ _ ?_;exact JN (()) hF (by simp [F18]) (by simp [F18])
         ·replace hF:=Aah h19 hF;have h19_:=h19;try simp at h19_
          have F19:=A5 F13 h18 h18_ h19 h19_;try simp [F19]
          and_intros <;> first | exact GK g | apply r | omega | (simp [maxLen,F19] <;> omega)
          refine WK [(1,Iz v3),(2,Iz v4),(3,Iz v5),(5,AV.ptr 0 0),(11,AV.map 1),(12,AV.bool v14),(14,Lz v13),(15,Iz (v13.length : Int)),(16,Iz v15),(30,AV.lst false false (List.map (sl (AV.int .i64)) v6)),(31,Iz (v6.length : Int)),(32,Iz v11),(99,AV.bool false)] [(0,.cells [Iz v0,Q0 v1,Lz v2]),(1,.mp (mpA (AV.int .i64) AV.bool v16))] 2 (by simp [F19]) (by simp [F19]) ?_;refine CF (by simp [F19]) ?_;refine AW.skip ?_;refine hK3264 _ _ _ ?_;exact JN (()) hF (by simp [F19]) (by simp [F19])
       ·rintro ⟨⟩ hF
        try dsimp only at hF
        unfold AaV.J6 at hF;refine RG [] [none,none,none,none,none,none] fun _ _ g r=>?_;obtain ⟨v17,h8,h9,h10,hF⟩:=Aam hF;have h10_:=Aa2 h10;try simp at h10_
        have h9_:=h9;try simp at h9_
        have F20:=A6 F12 h8 h9 h10 h10_ h9_;try simp [F20]
        and_intros <;> first | exact GK g | apply r | omega | (simp [maxLen,F20] <;> omega)
        refine hK3258 _ _ _ ?_;refine WK [(1,Iz v3),(2,Iz v4),(3,Iz v5),(5,AV.ptr 0 0),(11,AV.map 1),(12,AV.bool v14),(14,Lz v13),(15,Iz (v13.length : Int)),(16,Iz v15),(30,AV.lst false false (List.map (sl (AV.int .i64)) v6)),(31,Iz (v6.length : Int)),(32,Iz v11)] [(0,.cells [Iz v0,Q0 v1,Lz v2]),(1,.mp (mpA (AV.int .i64) AV.bool (AbC v16 v17 true)))] 2 (by simp [F20]) (by simp [F20]) ?_;refine RG [] [none,none,none] fun _ _ g r=>?_;try simp [F20]
        and_intros <;> first | exact GK g | apply r | omega | (simp [maxLen,F20] <;> omega)
        refine hK3246 _ _ _ ?_;exact NX (k':=n5) ((IntKind.wrap .i64 (v15+1),AbC v16 v17 true)) hF (by simp [F20]) (by simp [F20])
      ·replace hF:=Aah h7 hF;have h7_:=h7;try simp at h7_
       have F21:=A3 F2 h7 h7_;refine CF (by simp [F21] <;> omega) ?_;refine AW.exit ?_;try simp
       refine hK3173 _ _ _ ?_;refine RG [] [none,none] fun _ _ g r=>?_;try simp [F21]
       and_intros <;> first | exact GK g | apply r | omega | (simp [maxLen,F21] <;> omega)
       refine hK3069 _ _ _ ?_;exact NX (k':=n2) ((v14,IntKind.wrap .i64 (v11+1),v16)) hF (by simp [F21]) (by simp [F21])
   ·replace hF:=Aah h3 hF;have h3_:=h3;try simp at h3_
    have F22:=A4 h2 h2_ h3 h3_;refine CF (by simp [F22] <;> omega) ?_;refine AW.exit ?_;try simp
    refine hK2461 _ _ _ ?_;refine SQ [] [none] fun _ _ g r=>?_;try simp [F22]
    and_intros <;> first | exact GK g | apply r | omega | (simp [maxLen,F22] <;> omega)
    refine WK [(10,AV.bool true)] [] 2 (by simp [F22]) (by simp [F22]) ?_;simp only [Option.some.injEq] at hF;subst hF;refine AW.ret (hQ _ _ _ ?_ (AaI ?_)).1
    ·simp [Try.f29,F22]
    ·simp [F22]
abbrev Aca  : Aat := .cells [Iz 4,AV.lst false true (List.map AaA.av ([(AaA.mk 0 1 1),(AaA.mk 0 2 2),(AaA.mk 1 3 1),(AaA.mk 2 3 2)] : List AaA)),AV.lst true true (List.map (AV.int .i64) ([] : List Int))]
abbrev AfJ  : Aat := .cells [Iz 4,AV.slc 0 0 3 (([(AaA.mk 0 1 1),(AaA.mk 0 2 2),(AaA.mk 1 3 1),(AaA.mk 2 3 2)] : List AaA).length) true,AV.lst true true (List.map (AV.int .i64) ([] : List Int))]
theorem AeI (k : Nat) (v0 : Bool) (hF : AdD k=some v0) :
 AbF Try.prog 24 [] [] (AV.bool v0) []:=by
 unfold AdD at hF;refine EN Try.func24 ?_;intro c0 w0 Q h0 hQ
 refine WK [] [] 0 (by simp) (by simp) ?_;refine SQ [] [none] fun _ _ g r=>?_;try simp
 and_intros <;> first | exact GK g | apply r | omega | (simp [maxLen] <;> omega)
 refine WK [] [] 0 (by simp) (by simp) ?_;refine SQ [8] [none,none,none,none,none,none,none,none] fun _ _ g r=>?_;try simp
 and_intros <;> first | exact GK g | apply r | omega | (simp [maxLen] <;> omega)
 refine WK [(1,AV.ptr 1 0)] [(0,.cells (AaJ (List.map AaA.av ([(AaA.mk 0 1 1),(AaA.mk 0 2 2),(AaA.mk 1 3 1),(AaA.mk 2 3 2)] : List AaA)))),(1,AfJ )] 2 (by simp) (by simp) ?_;refine AW.frz 0 (o := .cells (AaJ (List.map AaA.av ([(AaA.mk 0 1 1),(AaA.mk 0 2 2),(AaA.mk 1 3 1),(AaA.mk 2 3 2)] : List AaA)))) (by simp) rfl [] [(1,Aca )] trivial ⟨⟨by simp,(AfJ ),by simp,(.mk (.cons (.same _) (.cons (.l (by simp) (by simp) (by simp) (by simp)) (.cons (.same _) .nil))))⟩,trivial⟩ ?_;refine WK [(1,AV.ptr 1 0)] [(1,Aca )] 2 (by simp) (by simp) ?_;refine SQ [] [none,none,none] fun _ _ g r=>?_;try simp
 and_intros
 try any_goals first | omega | (simp [maxLen] <;> omega)
 obtain ⟨v1,h1,hF⟩:=AaQ hF;refine AC (Ah7 k _ _ _ _ _ _ _ h1) (.cons (.agg (.cons (.same (by simp)) (.cons (Coe.fl (by simp)) (.cons (Coe.fl (by simp)) .nil)))) (.cons (.same (by simp)) (.cons (.same (by simp)) (.cons (.same (by simp)) .nil)))) ?_;try simp
 and_intros <;> first | exact GK g | apply r | omega | (simp [maxLen] <;> omega)
 refine WK [(1,AV.ptr 1 0),(2,AV.slc 2 0 1 v1.length false)] [(1,Aca ),(2,.grow (List.map (sl (AV.int .i64)) v1))] 3 (by simp) (by simp) ?_;refine AW.frz 2 (o := .grow (List.map (sl (AV.int .i64)) v1)) (by simp) rfl [(2,AV.lst false false (List.map (sl (AV.int .i64)) v1))] [] ⟨(.l (by simp) (by simp) (by simp) (by simp)),trivial⟩ trivial ?_;refine WK [(1,AV.ptr 1 0),(2,AV.lst false false (List.map (sl (AV.int .i64)) v1))] [(1,Aca )] 3 (by simp) (by simp) ?_;refine SQ [] [none,none,none] fun _ _ g r=>?_;try simp
 and_intros
 try any_goals first | omega | (simp [maxLen] <;> omega)
 obtain ⟨v2,h2,hF⟩:=AaQ hF;refine AC (Afd k _ _ _ _ _ _ _ _ h2) (.cons (.agg (.cons (.same (by simp)) (.cons (Coe.fl (by simp)) (.cons (Coe.fl (by simp)) .nil)))) (.cons (.same (by simp)) (.cons (.same (by simp)) (.cons (.same (by simp)) (.cons (.same (by simp)) .nil))))) ?_;try simp
 and_intros <;> first | exact GK g | apply r | omega | (simp [maxLen] <;> omega)
 refine WK [(1,AV.ptr 1 0),(2,AV.lst false false (List.map (sl (AV.int .i64)) v1)),(3,AV.slc 3 0 1 v2.length false)] [(1,Aca ),(3,.grow (List.map (sl (AV.int .i64)) v2))] 4 (by simp) (by simp) ?_;refine AW.frz 3 (o := .grow (List.map (sl (AV.int .i64)) v2)) (by simp) rfl [(3,AV.lst false false (List.map (sl (AV.int .i64)) v2))] [] ⟨(.l (by simp) (by simp) (by simp) (by simp)),trivial⟩ trivial ?_;refine WK [(1,AV.ptr 1 0),(2,AV.lst false false (List.map (sl (AV.int .i64)) v1)),(3,AV.lst false false (List.map (sl (AV.int .i64)) v2))] [(1,Aca )] 4 (by simp) (by simp) ?_;refine SQ [] [none,none,none,none,some (17,true),some (17,true),some (17,true),none,none,some (22,true),some (22,true),some (22,true),none,none,some (27,true),some (27,true),some (27,true),none,none,some (32,true),some (32,true),some (32,true),none,none,some (37,true),some (37,true),some (37,true),some (37,true),some (37,true),none,none,some (44,true),some (44,true),some (44,true),some (44,true),some (44,true),some (44,true),none,none,some (52,true),some (52,true),some (52,true),some (52,true),none,none] fun _ _ g r=>?_;try simp
 and_intros
 try any_goals first | omega | (simp [maxLen] <;> omega)
 obtain ⟨v3,h3,hF⟩:=AaQ hF;refine AC (Aee k _ _ _ _ _ _ _ h3) (.cons (.agg (.cons (.same (by simp)) (.cons (Coe.fl (by simp)) (.cons (Coe.fl (by simp)) .nil)))) (.cons (.same (by simp)) (.cons (.same (by simp)) (.cons (.same (by simp)) .nil)))) ?_;by_cases h4 : v3=2
 ·replace hF:=Aag h4 hF;have h4q : v3=2:=h4;have h4_:=Abm h4q;have h4__:=Abl h4q;have F1:=A3 h4_ h4__ h4q;try simp [F1]
  and_intros
  try any_goals first | omega | (simp [maxLen,F1] <;> omega)
  obtain ⟨v4,h5,hF⟩:=AaQ hF;refine AC (Aee k _ _ _ _ _ _ _ h5) (.cons (.agg (.cons (.same (by simp [F1])) (.cons (Coe.fl (by simp [F1])) (.cons (Coe.fl (by simp [F1])) .nil)))) (.cons (.same (by simp [F1])) (.cons (.same (by simp [F1])) (.cons (.same (by simp [F1])) .nil)))) ?_;by_cases h6 : v4=1
  ·replace hF:=Aag h6 hF;have h6q : v4=1:=h6;have h6_:=Abm h6q;have h6__:=Abl h6q;by_cases h7 : (v1.length : Int)=2
   ·replace hF:=Aag h7 hF;have h7q : (v1.length : Int)=2:=h7;have h7_:=Abm h7q;have h7__:=Abl h7q;have F2:=A7 F1 h6_ h6__ h6q h7_ h7__ h7q;try simp [F2]
    and_intros
    try any_goals first | omega | (simp [maxLen,F2] <;> omega)
    obtain ⟨v5,h8,hF⟩:=AaQ hF;refine AC (AeH k _ _ _ _ _ _ _ _ h8) (.cons (.agg (.cons (.same (by simp [F2])) (.cons (Coe.fl (by simp [F2])) (.cons (Coe.fl (by simp [F2])) .nil)))) (.cons (.same (by simp [F2])) (.cons (.same (by simp [F2])) (.cons (.same (by simp [F2])) (.cons (.same (by simp [F2])) .nil))))) ?_;by_cases h9 : v5=true
    ·replace hF:=Aag h9 hF;have h9_:=h9;try simp at h9_
     by_cases h10 : (v2.length : Int)=2
     ·replace hF:=Aag h10 hF;have h10q : (v2.length : Int)=2:=h10;have h10_:=Abm h10q;have h10__:=Abl h10q;obtain ⟨v6,h11,h12,h13,hF⟩:=Aam hF;have h13_:=Aa2 h13;try simp at h13_
      have h12_:=h12;try simp at h12_
      have h13z:=AkL h13;by_cases h14 : (v6.length : Int)=3
      ·replace hF:=Aag h14 hF;have h14q : (v6.length : Int)=3:=h14;have h14_:=Abm h14q;have h14__:=Abl h14q;obtain ⟨v7,h15,h16,h17,hF⟩:=Aam hF;have h17_:=Aa2 h17;try simp at h17_
       have h16_:=h16;try simp at h16_
       by_cases h18 : v7=1
       ·replace hF:=Aag h18 hF;have h18q : v7=1:=h18;have h18_:=Abm h18q;have h18__:=Abl h18q;have F3:=A9 F2 h9 h9_ h10_ h10__ h10q h11 h12 (A9 h13 h13_ h12_ h13z h14_ h14__ h14q h15 (A7 h16 h17 h17_ h16_ h18_ h18__ h18q));try simp [F3]
        and_intros
        try any_goals first | omega | (simp [maxLen,F3] <;> omega)
        obtain ⟨v8,h19,hF⟩:=AaQ hF;refine AC (AeH k _ _ _ _ _ _ _ _ h19) (.cons (.agg (.cons (.same (by simp [F3])) (.cons (Coe.fl (by simp [F3])) (.cons (Coe.fl (by simp [F3])) .nil)))) (.cons (.same (by simp [F3])) (.cons (.same (by simp [F3])) (.cons (.same (by simp [F3])) (.cons (.same (by simp [F3])) .nil))))) ?_;try simp [F3]
        and_intros <;> first | exact GK g | apply r | omega | (simp [maxLen,F3] <;> omega)
        refine WK [(0,AV.bool (!v8))] [] 4 (by simp [F3]) (by simp [F3]) ?_;simp only [Option.some.injEq] at hF;subst hF;refine AW.ret (hQ _ _ _ ?_ (AaI ?_)).1
        ·simp [Try.f24,F3]
        ·simp [F3]
       ·replace hF:=Aah h18 hF;have h18_:=Abg h18;have h18__:=Abi h18;have F4:=A9 F2 h9 h9_ h10_ h10__ h10q h11 h12 (A9 h13 h13_ h12_ h13z h14_ h14__ h14q h15 (A7 h16 h17 h17_ h16_ h18 h18_ h18__));try simp [F4]
        and_intros <;> first | exact GK g | apply r | omega | (simp [maxLen,F4] <;> omega)
        refine WK [(0,AV.bool false)] [] 4 (by simp [F4]) (by simp [F4]) ?_;simp only [Option.some.injEq] at hF;subst hF;refine AW.ret (hQ _ _ _ ?_ (AaI ?_)).1
        ·simp [Try.f24,F4]
        ·simp [F4]
      ·replace hF:=Aah h14 hF;have h14_:=Abg h14;have h14__:=Abi h14;have F5:=A9 F2 h9 h9_ h10_ h10__ h10q h11 h12 (A7 h13 h13_ h12_ h13z h14 h14_ h14__);try simp [F5]
       and_intros <;> first | exact GK g | apply r | omega | (simp [maxLen,F5] <;> omega)
       refine WK [(0,AV.bool false)] [] 4 (by simp [F5]) (by simp [F5]) ?_;simp only [Option.some.injEq] at hF;subst hF;refine AW.ret (hQ _ _ _ ?_ (AaI ?_)).1
       ·simp [Try.f24,F5]
       ·simp [F5]
     ·replace hF:=Aah h10 hF;have h10_:=Abg h10;have h10__:=Abi h10;have F6:=A6 F2 h9 h9_ h10 h10_ h10__;try simp [F6]
      and_intros <;> first | exact GK g | apply r | omega | (simp [maxLen,F6] <;> omega)
      refine WK [(0,AV.bool false)] [] 4 (by simp [F6]) (by simp [F6]) ?_;simp only [Option.some.injEq] at hF;subst hF;refine AW.ret (hQ _ _ _ ?_ (AaI ?_)).1
      ·simp [Try.f24,F6]
      ·simp [F6]
    ·replace hF:=Aah h9 hF;have h9_:=h9;try simp at h9_
     have F7:=A3 F2 h9 h9_;try simp [F7]
     and_intros <;> first | exact GK g | apply r | omega | (simp [maxLen,F7] <;> omega)
     refine WK [(0,AV.bool false)] [] 4 (by simp [F7]) (by simp [F7]) ?_;simp only [Option.some.injEq] at hF;subst hF;refine AW.ret (hQ _ _ _ ?_ (AaI ?_)).1
     ·simp [Try.f24,F7]
     ·simp [F7]
   ·replace hF:=Aah h7 hF;have h7_:=Abg h7;have h7__:=Abi h7;have F8:=A7 F1 h6_ h6__ h6q h7 h7_ h7__;try simp [F8]
    and_intros <;> first | exact GK g | apply r | omega | (simp [maxLen,F8] <;> omega)
    refine WK [(0,AV.bool false)] [] 4 (by simp [F8]) (by simp [F8]) ?_;simp only [Option.some.injEq] at hF;subst hF;refine AW.ret (hQ _ _ _ ?_ (AaI ?_)).1
    ·simp [Try.f24,F8]
    ·simp [F8]
  ·replace hF:=Aah h6 hF;have h6_:=Abg h6;have h6__:=Abi h6;have F9:=A4 F1 h6 h6_ h6__;try simp [F9]
   and_intros <;> first | exact GK g | apply r | omega | (simp [maxLen,F9] <;> omega)
   refine WK [(0,AV.bool false)] [] 4 (by simp [F9]) (by simp [F9]) ?_;simp only [Option.some.injEq] at hF;subst hF;refine AW.ret (hQ _ _ _ ?_ (AaI ?_)).1
   ·simp [Try.f24,F9]
   ·simp [F9]
 ·replace hF:=Aah h4 hF;have h4_:=Abg h4;have h4__:=Abi h4;have F10:=A3 h4 h4_ h4__;try simp [F10]
  and_intros <;> first | exact GK g | apply r | omega | (simp [maxLen,F10] <;> omega)
  refine WK [(0,AV.bool false)] [] 4 (by simp [F10]) (by simp [F10]) ?_;simp only [Option.some.injEq] at hF;subst hF;refine AW.ret (hQ _ _ _ ?_ (AaI ?_)).1
  ·simp [Try.f24,F10]
  ·simp [F10]
theorem Ajs (k : Nat) (v0 : (List Int)) (v1 : (List Int)) (v2 : Int) (hF : Afr k v0=some (v1,v2)) :
 AbF Try.prog 11 [AV.lst false false (List.map (AV.int .i64) v0)] [] (AV.ptr 0 0) [some (.cells [AV.lst false false (List.map (AV.int .i64) v1),AV.int .i64 v2])]:=by
 unfold Afr at hF;refine EN Try.func11 ?_;intro c0 w0 Q h0 hQ
 refine WK [(0,Lz v0)] [] 0 (by simp) (by simp) ?_;refine SQ [] [none] fun _ _ g r=>?_;try simp
 and_intros <;> first | exact GK g | apply r | omega | (simp [maxLen] <;> omega)
 refine WK [(0,Lz v0)] [] 0 (by simp) (by simp) ?_;refine SQ [] [none,none,none,none] fun _ _ g r=>?_;try simp
 and_intros <;> first | exact GK g | apply r | omega | (simp [maxLen] <;> omega)
 refine WK [(2,AV.ptr 0 0)] [(0,.cells [Lz v0,Iz 0])] 1 (by simp) (by simp) ?_;simp only [Option.some.injEq,Prod.mk.injEq] at hF;obtain ⟨e0,e1⟩:=hF;subst e0 e1;refine AW.ret (hQ _ _ _ ?_ (AaI ?_)).1
 ·simp [Try.f11]
 ·simp
theorem Ak8 (k : Nat) (v0 : Int) (v1 : Int) (v2 : Int) (hF : Ac1 k v0 v1=some v2) :
 AbF Try.prog 27 [AV.int .i64 v0,AV.int .i64 v1] [] (AV.int .i64 v2) []:=by
 unfold Ac1 at hF;refine EN Try.func27 ?_;intro c0 w0 Q h0 hQ
 refine WK [(0,Iz v0),(1,Iz v1)] [] 0 (by simp) (by simp) ?_;refine SQ [] [none] fun _ _ g r=>?_;try simp
 and_intros <;> first | exact GK g | apply r | omega | (simp [maxLen] <;> omega)
 refine WK [(0,Iz v0),(1,Iz v1)] [] 0 (by simp) (by simp) ?_;refine AW.seq fun K17 hK17=>?_;refine SQ [] [none,none] fun _ _ g r=>?_;try simp
 and_intros <;> first | exact GK g | apply r | omega | (simp [maxLen] <;> omega)
 refine WK [(0,Iz v0),(1,Iz v1),(6,AV.bool (decide (v1<1)))] [] 0 (by simp) (by simp) ?_;by_cases h1 : v1<1
 ·replace hF:=Aag h1 hF;have h1_:=h1;try simp at h1_
  refine CT (by simp [h1,h1_] <;> omega) ?_;refine SQ [] [none] fun _ _ g r=>?_;try simp [h1,h1_]
  and_intros <;> first | exact GK g | apply r | omega | (simp [h1,h1_,maxLen] <;> omega)
  refine WK [(4,Iz 0)] [] 0 (by simp [h1,h1_]) (by simp [h1,h1_]) ?_;simp only [Option.some.injEq] at hF;subst hF;refine AW.ret (hQ _ _ _ ?_ (AaI ?_)).1
  ·simp [Try.f27,h1,h1_]
  ·simp [h1,h1_]
 ·replace hF:=Aah h1 hF;have h1_:=h1;try simp at h1_
  refine CF (by simp [h1,h1_] <;> omega) ?_;refine AW.skip ?_;refine hK17 _ _ _ ?_;refine SQ [] [none,none,none,none] fun _ _ g r=>?_;obtain ⟨h2,hF⟩:=Aab hF;have h2_:=h2;try simp at h2_
  have F1:=A4 h1 h1_ h2 h2_;try simp [F1]
  and_intros <;> first | exact GK g | apply r | omega | (simp [maxLen,F1] <;> omega)
  refine WK [(0,Iz (Int.tmod v0 v1)),(1,Iz v1)] [] 0 (by simp [F1]) (by simp [F1]) ?_;refine AW.midF (α:=Int) (fun v3=>Ac1.J1 k v3=some v2) (fun v3=>[(0,Iz v3)]) (fun v3=>[]) 0 (fun K24 hK24=>?_) ?_
  ·refine SQ [] [none,none] fun _ _ g r=>?_;try simp [F1]
   and_intros <;> first | exact GK g | apply r | omega | (simp [maxLen,F1] <;> omega)
   refine WK [(0,Iz (Int.tmod v0 v1)),(1,Iz v1),(11,AV.bool (decide (Int.tmod v0 v1<0)))] [] 0 (by simp [F1]) (by simp [F1]) ?_;by_cases h3 : Int.tmod v0 v1<0
   ·replace hF:=Aag h3 hF;have h3_:=h3;try simp at h3_
    have F2:=A3 F1 h3 h3_;refine CT (by simp [F2] <;> omega) ?_;refine RG [] [none,none,none,none] fun _ _ g r=>?_;try simp [F2]
    and_intros <;> first | exact GK g | apply r | omega | (simp [maxLen,F2] <;> omega)
    refine hK24 _ _ _ ?_;exact JN (IntKind.wrap .i64 (Int.tmod v0 v1+v1)) hF (by simp [F2]) (by simp [F2])
   ·replace hF:=Aah h3 hF;have h3_:=h3;try simp at h3_
    have F3:=A3 F1 h3 h3_;refine CF (by simp [F3] <;> omega) ?_;refine AW.skip ?_;refine hK24 _ _ _ ?_;exact JN (Int.tmod v0 v1) hF (by simp [F3]) (by simp [F3])
  ·rintro v3 hF
   try dsimp only at hF
   unfold Ac1.J1 at hF;refine SQ [] [none,none] fun _ _ g r=>?_;try simp [F1]
   and_intros <;> first | exact GK g | apply r | omega | (simp [maxLen,F1] <;> omega)
   refine WK [(4,Iz v3)] [] 0 (by simp [F1]) (by simp [F1]) ?_;simp only [Option.some.injEq] at hF;subst hF;refine AW.ret (hQ _ _ _ ?_ (AaI ?_)).1
   ·simp [Try.f27,F1]
   ·simp [F1]
theorem AbU (k : Nat) (v0 : (List Int)) (v1 : Int) (v2 : Int) (v3 : Int) (v4 : Int) (hF : AbG k v0 v1 v2=some (v3,v4)) :
 AbF Try.prog 23 [AV.ptr 0 0,AV.int .i64 v2] [.cells [AV.lst false false (List.map (AV.int .i64) v0),AV.int .i64 v1]] (AV.int .i64 v3) [some (.cells [AV.lst false false (List.map (AV.int .i64) v0),AV.int .i64 v4])]:=by
 unfold AbG at hF;refine EN Try.func23 ?_;intro c0 w0 Q h0 hQ
 refine WK [(0,AV.ptr 0 0),(1,Iz v2)] [(0,.cells [Lz v0,Iz v1])] 1 (by simp) (by simp) ?_;refine SQ [] [none] fun _ _ g r=>?_;try simp
 and_intros <;> first | exact GK g | apply r | omega | (simp [maxLen] <;> omega)
 refine WK [(0,AV.ptr 0 0),(1,Iz v2)] [(0,.cells [Lz v0,Iz v1])] 1 (by simp) (by simp) ?_;refine AW.seq fun K12 hK12=>?_;refine SQ [] [none,none,none,none,none,none,none,none,none,none] fun _ _ g r=>?_;try simp
 and_intros <;> first | exact GK g | apply r | omega | (simp [maxLen] <;> omega)
 refine WK [(0,AV.ptr 0 0),(1,Iz v2),(14,AV.bool (decide ((v0.length : Int)≤v1)))] [(0,.cells [Lz v0,Iz v1])] 1 (by simp) (by simp) ?_;by_cases h1 : (v0.length : Int)≤v1
 ·replace hF:=Aag h1 hF;have h1_:=h1;try simp at h1_
  refine CT (by simp [h1,h1_] <;> omega) ?_;refine SQ [] [none] fun _ _ g r=>?_;try simp [h1,h1_]
  and_intros <;> first | exact GK g | apply r | omega | (simp [h1,h1_,maxLen] <;> omega)
  refine WK [(4,Iz 0)] [(0,.cells [Lz v0,Iz v1])] 1 (by simp [h1,h1_]) (by simp [h1,h1_]) ?_;simp only [Option.some.injEq,Prod.mk.injEq] at hF;obtain ⟨e0,e1⟩:=hF;subst e0 e1;refine AW.ret (hQ _ _ _ ?_ (AaI ?_)).1
  ·simp [Try.f23,h1,h1_]
  ·simp [h1,h1_]
 ·replace hF:=Aah h1 hF;have h1_:=h1;try simp at h1_
  refine CF (by simp [h1,h1_] <;> omega) ?_;refine AW.skip ?_;refine hK12 _ _ _ ?_;refine SQ [] [none,none,none,none,none,none,none,none] fun _ _ g r=>?_;try simp [h1,h1_]
  and_intros <;> first | exact GK g | apply r | omega | (simp [h1,h1_,maxLen] <;> omega)
  refine WK [(0,AV.ptr 0 0),(1,Iz v2)] [(0,.cells [Lz v0,Iz (IntKind.wrap .i64 (v1+1))])] 1 (by simp [h1,h1_]) (by simp [h1,h1_]) ?_;refine SQ [] [none,none,none,none,none,none,none,none,none,none,none,none,none,none] fun _ _ g r=>?_;obtain ⟨v5,h2,h3,h4,hF⟩:=Aam hF;have h4_:=Aa2 h4;try simp at h4_
  have h3_:=h3;try simp at h3_
  have F1:=A7 h1 h1_ h2 h3 h4 h4_ h3_;try simp [F1]
  and_intros
  try any_goals first | omega | (simp [maxLen,F1] <;> omega)
  obtain ⟨v6,h5,hF⟩:=AaQ hF;refine AC (Ak8 k _ _ _ h5) (.cons (.same (by simp [F1])) (.cons (.same (by simp [F1])) .nil)) ?_;try simp [F1]
  and_intros <;> first | exact GK g | apply r | omega | (simp [maxLen,F1] <;> omega)
  refine WK [(4,Iz v6)] [(0,.cells [Lz v0,Iz (IntKind.wrap .i64 (v1+1))])] 1 (by simp [F1]) (by simp [F1]) ?_;simp only [Option.some.injEq,Prod.mk.injEq] at hF;obtain ⟨e0,e1⟩:=hF;subst e0 e1;refine AW.ret (hQ _ _ _ ?_ (AaI ?_)).1
  ·simp [Try.f23,F1]
  ·simp [F1]
theorem Agn (k : Nat) (v0 : (List Int)) (v1 : Int) (v2 : Int) (v3 : Bool) (v4 : Int) (hF : Ada k v0 v1 v2=some (v3,v4)) :
 AbF Try.prog 39 [AV.ptr 0 0,AV.int .i64 v2] [.cells [AV.lst false false (List.map (AV.int .i64) v0),AV.int .i64 v1]] (AV.bool v3) [some (.cells [AV.lst false false (List.map (AV.int .i64) v0),AV.int .i64 v4])]:=by
 unfold Ada at hF;refine EN Try.func39 ?_;intro c0 w0 Q h0 hQ
 refine WK [(0,AV.ptr 0 0),(1,Iz v2)] [(0,.cells [Lz v0,Iz v1])] 1 (by simp) (by simp) ?_;refine SQ [] [none] fun _ _ g r=>?_;try simp
 and_intros <;> first | exact GK g | apply r | omega | (simp [maxLen] <;> omega)
 refine WK [(0,AV.ptr 0 0),(1,Iz v2)] [(0,.cells [Lz v0,Iz v1])] 1 (by simp) (by simp) ?_;refine SQ [] [none,none,none,none,none,none,none] fun _ _ g r=>?_;try simp
 and_intros
 try any_goals first | omega | (simp [maxLen] <;> omega)
 obtain ⟨v5,v6,h1,hF⟩:=Abd hF;refine Aa9 (AbU k _ _ _ _ _ h1) (by simp) [0] [] [0] rfl (.cons (.same (by simp)) (.cons (.same (by simp)) .nil)) (by simp) (by decide) (by simp) (by simp) (.inl rfl) (by simp) (by simp) ?_;try simp
 and_intros <;> first | exact GK g | apply r | omega | (simp [maxLen] <;> omega)
 refine WK [(4,AV.bool (v5==(IntKind.wrap .i64 (v2-1))))] [(0,.cells [Lz v0,Iz v6])] 1 (by simp) (by simp) ?_;simp only [Option.some.injEq,Prod.mk.injEq] at hF;obtain ⟨e0,e1⟩:=hF;subst e0 e1;refine AW.ret (hQ _ _ _ ?_ (AaI ?_)).1
 ·simp [Try.f39]
 ·simp
theorem Ajq (k : Nat) (v0 : (List Int)) (v1 : Int) (v2 : Bool) (hF : Aba k v0 v1=some v2) :
 AbF Try.prog 91 [AV.lst false false (List.map (AV.int .i64) v0),AV.int .i64 v1] [] (AV.bool v2) []:=by
 unfold Aba at hF;refine EN Try.func91 ?_;intro c0 w0 Q h0 hQ
 refine WK [(0,Lz v0),(1,Iz v1)] [] 0 (by simp) (by simp) ?_;refine SQ [] [none] fun _ _ g r=>?_;try simp
 and_intros <;> first | exact GK g | apply r | omega | (simp [maxLen] <;> omega)
 refine WK [(0,Lz v0),(1,Iz v1)] [] 0 (by simp) (by simp) ?_;refine AW.seq fun K155 hK155=>?_;refine SQ [] [none] fun _ _ g r=>?_;try simp
 and_intros <;> first | exact GK g | apply r | omega | (simp [maxLen] <;> omega)
 refine WK [(0,Lz v0),(1,Iz v1),(5,Iz 0)] [] 0 (by simp) (by simp) ?_;refine AW.block ?_;refine AW.loopF (α:=Int) (fun n v3=>Aba.L1 k v0 v1 n v3=some v2) (fun v3=>[(0,Lz v0),(1,Iz v1),(5,Iz v3)]) (fun v3=>[]) 0 k (0) hF (by simp) (by simp) (by simp) ?_;rintro (_|n1) v3 hF K192 hK192
 ·try dsimp only at hF
  rw [Aba.L1] at hF; cases hF
 try dsimp only at hF
 rw [Aba.L1] at hF;refine AW.seq fun K194 hK194=>?_;refine SQ [] [none,none,none,none] fun _ _ g r=>?_;try simp
 and_intros <;> first | exact GK g | apply r | omega | (simp [maxLen] <;> omega)
 refine WK [(0,Lz v0),(1,Iz v1),(5,Iz v3),(9,AV.bool (decide (v3<(v0.length : Int))))] [] 0 (by simp) (by simp) ?_;by_cases h1 : v3<(v0.length : Int)
 ·replace hF:=Aag h1 hF;have h1_:=h1;try simp at h1_
  refine CT (by simp [h1,h1_] <;> omega) ?_;refine AW.skip ?_;refine hK194 _ _ _ ?_;refine AW.midF (α:=Unit) (fun _=>Aba.J2 k v3 (fun v3_=>Aba.L1 k v0 v1 n1 v3_)=some v2) (fun _=>[(0,Lz v0),(1,Iz v1),(5,Iz v3)]) (fun _=>[]) 0 (fun K201 hK201=>?_) ?_
  ·refine AW.block ?_;refine SQ [] [none,none,none,none,none,none,some (17,false),some (17,false),some (17,false),some (17,false),some (17,false),some (17,false),none,none,some (25,false),some (25,false),some (25,false),some (28,true),some (28,true),some (28,true),some (28,true),some (28,true),some (28,true),some (28,true),some (28,true),some (28,true),some (28,true),some (25,false),none] fun _ _ g r=>?_;obtain ⟨v4,h2,h3,h4,hF⟩:=Aam hF;have h4_:=Aa2 h4;try simp at h4_
   have h3_:=h3;try simp at h3_
   by_cases h5 : v4<0
   ·replace hF:=Aag h5 hF;have h5_:=h5;try simp at h5_
    have F1:=A9 h1 h1_ h2 h3 h4 h4_ h3_ h5 h5_;try simp [F1]
    and_intros <;> first | exact GK g | apply r | omega | (simp [maxLen,F1] <;> omega)
    refine WK [(0,Lz v0),(1,Iz v1),(5,Iz v3),(40,AV.bool true)] [] 0 (by simp [F1]) (by simp [F1]) ?_;refine CT (by simp [F1]) ?_;refine SQ [] [none] fun _ _ g r=>?_;try simp [F1]
    and_intros <;> first | exact GK g | apply r | omega | (simp [maxLen,F1] <;> omega)
    refine WK [(4,AV.bool false)] [] 0 (by simp [F1]) (by simp [F1]) ?_;simp only [Option.some.injEq] at hF;subst hF;refine AW.ret (hQ _ _ _ ?_ (AaI ?_)).1
    ·simp [Try.f91,F1]
    ·simp [F1]
   ·replace hF:=Aah h5 hF;have h5_:=h5;try simp at h5_
    by_cases h6 : v1≤v4
    ·replace hF:=Aag h6 hF;have h6_:=h6;try simp at h6_
     have F2:=A9 h1 h1_ h2 h3 h4 h4_ h3_ h5 (A3 h5_ h6 h6_);try simp [F2]
     and_intros <;> first | exact GK g | apply r | omega | (simp [maxLen,F2] <;> omega)
     refine WK [(0,Lz v0),(1,Iz v1),(5,Iz v3),(40,AV.bool true)] [] 0 (by simp [F2]) (by simp [F2]) ?_;refine CT (by simp [F2]) ?_;refine SQ [] [none] fun _ _ g r=>?_;try simp [F2]
     and_intros <;> first | exact GK g | apply r | omega | (simp [maxLen,F2] <;> omega)
     refine WK [(4,AV.bool false)] [] 0 (by simp [F2]) (by simp [F2]) ?_;simp only [Option.some.injEq] at hF;subst hF;refine AW.ret (hQ _ _ _ ?_ (AaI ?_)).1
     ·simp [Try.f91,F2]
     ·simp [F2]
    ·replace hF:=Aah h6 hF;have h6_:=h6;try simp at h6_
     by_cases h7 : 0<v3
     ·replace hF:=Aag h7 hF;have h7_:=h7;try simp at h7_
      obtain ⟨v5,h8,h9,h10,hF⟩:=Aam hF;have h10_:=Aa2 h10;try simp at h10_
      have h9_:=h9;try simp at h9_
      have F3:=A9 h1 h1_ h2 h3 h4 h4_ h3_ h5 (A9 h5_ h6 h6_ h7 h7_ h8 h9 h10 (A2 h10_ h9_));try simp [F3]
      and_intros <;> first | exact GK g | apply r | omega | (simp [maxLen,F3] <;> omega)
      refine WK [(0,Lz v0),(1,Iz v1),(5,Iz v3),(40,AV.bool (decide (v4≤v5)))] [] 0 (by simp [F3]) (by simp [F3]) ?_;by_cases h11 : v4≤v5
      ·replace hF:=Aag h11 hF;have h11_:=h11;try simp at h11_
       have F4:=A3 F3 h11 h11_;refine CT (by simp [F4] <;> omega) ?_;refine SQ [] [none] fun _ _ g r=>?_;try simp [F4]
       and_intros <;> first | exact GK g | apply r | omega | (simp [maxLen,F4] <;> omega)
       refine WK [(4,AV.bool false)] [] 0 (by simp [F4]) (by simp [F4]) ?_;simp only [Option.some.injEq] at hF;subst hF;refine AW.ret (hQ _ _ _ ?_ (AaI ?_)).1
       ·simp [Try.f91,F4]
       ·simp [F4]
      ·replace hF:=Aah h11 hF;have h11_:=h11;try simp at h11_
       have F5:=A3 F3 h11 h11_;refine CF (by simp [F5] <;> omega) ?_;refine AW.skip ?_;refine hK201 _ _ _ ?_;exact JN (()) hF (by simp [F5]) (by simp [F5])
     ·replace hF:=Aah h7 hF;have h7_:=h7;try simp at h7_
      have F6:=A9 h1 h1_ h2 h3 h4 h4_ h3_ h5 (A5 h5_ h6 h6_ h7 h7_);try simp [F6]
      and_intros <;> first | exact GK g | apply r | omega | (simp [maxLen,F6] <;> omega)
      refine WK [(0,Lz v0),(1,Iz v1),(5,Iz v3),(40,AV.bool false)] [] 0 (by simp [F6]) (by simp [F6]) ?_;refine CF (by simp [F6]) ?_;refine AW.skip ?_;refine hK201 _ _ _ ?_;exact JN (()) hF (by simp [F6]) (by simp [F6])
  ·rintro ⟨⟩ hF
   try dsimp only at hF
   unfold Aba.J2 at hF;refine RG [] [none,none,none] fun _ _ g r=>?_;try simp [h1,h1_]
   and_intros <;> first | exact GK g | apply r | omega | (simp [h1,h1_,maxLen] <;> omega)
   refine hK192 _ _ _ ?_;exact NX (k':=n1) (IntKind.wrap .i64 (v3+1)) hF (by simp [h1,h1_]) (by simp [h1,h1_])
 ·replace hF:=Aah h1 hF;have h1_:=h1;try simp at h1_
  refine CF (by simp [h1,h1_] <;> omega) ?_;refine AW.exit ?_;try simp
  refine hK155 _ _ _ ?_;refine SQ [] [none] fun _ _ g r=>?_;try simp [h1,h1_]
  and_intros <;> first | exact GK g | apply r | omega | (simp [h1,h1_,maxLen] <;> omega)
  refine WK [(4,AV.bool true)] [] 0 (by simp [h1,h1_]) (by simp [h1,h1_]) ?_;simp only [Option.some.injEq] at hF;subst hF;refine AW.ret (hQ _ _ _ ?_ (AaI ?_)).1
  ·simp [Try.f91,h1,h1_]
  ·simp [h1,h1_]
theorem Ack (k : Nat) (v0 : (List Int)) (v1 : Int) (v2 : Bool) (hF : Abf k v0 v1=some v2) :
 AbF Try.prog 20 [AV.lst false false (List.map (AV.int .i64) v0),AV.int .i64 v1] [] (AV.bool v2) []:=by
 unfold Abf at hF;refine EN Try.func20 ?_;intro c0 w0 Q h0 hQ
 refine WK [(0,Lz v0),(1,Iz v1)] [] 0 (by simp) (by simp) ?_;refine SQ [] [none] fun _ _ g r=>?_;try simp
 and_intros <;> first | exact GK g | apply r | omega | (simp [maxLen] <;> omega)
 refine WK [(0,Lz v0),(1,Iz v1)] [] 0 (by simp) (by simp) ?_;refine AW.seq fun K119 hK119=>?_;refine SQ [] [none] fun _ _ g r=>?_;try simp
 and_intros <;> first | exact GK g | apply r | omega | (simp [maxLen] <;> omega)
 refine WK [(0,Lz v0),(1,Iz v1),(5,Iz 0)] [] 0 (by simp) (by simp) ?_;refine AW.block ?_;refine AW.loopF (α:=Int) (fun n v3=>Abf.L1 k v0 v1 n v3=some v2) (fun v3=>[(0,Lz v0),(1,Iz v1),(5,Iz v3)]) (fun v3=>[]) 0 k (0) hF (by simp) (by simp) (by simp) ?_;rintro (_|n1) v3 hF K148 hK148
 ·try dsimp only at hF
  rw [Abf.L1] at hF; cases hF
 try dsimp only at hF
 rw [Abf.L1] at hF;refine AW.seq fun K150 hK150=>?_;refine SQ [] [none,none,none,none] fun _ _ g r=>?_;try simp
 and_intros <;> first | exact GK g | apply r | omega | (simp [maxLen] <;> omega)
 refine WK [(0,Lz v0),(1,Iz v1),(5,Iz v3),(9,AV.bool (decide (v3<(v0.length : Int))))] [] 0 (by simp) (by simp) ?_;by_cases h1 : v3<(v0.length : Int)
 ·replace hF:=Aag h1 hF;have h1_:=h1;try simp at h1_
  refine CT (by simp [h1,h1_] <;> omega) ?_;refine AW.skip ?_;refine hK150 _ _ _ ?_;refine AW.seq fun K154 hK154=>?_;refine AW.block ?_;refine SQ [] [none,none,none,none,none,none] fun _ _ g r=>?_;obtain ⟨v4,h2,h3,h4,hF⟩:=Aam hF;have h4_:=Aa2 h4;try simp at h4_
  have h3_:=h3;try simp at h3_
  have F1:=A7 h1 h1_ h2 h3 h4 h4_ h3_;try simp [F1]
  and_intros <;> first | exact GK g | apply r | omega | (simp [maxLen,F1] <;> omega)
  refine WK [(0,Lz v0),(1,Iz v1),(5,Iz v3),(17,AV.bool (v4==v1))] [] 0 (by simp [F1]) (by simp [F1]) ?_;by_cases h5 : v4=v1
  ·replace hF:=Aag h5 hF;have h5q : v4=v1:=h5;have h5_:=Abm h5q;have h5__:=Abl h5q;have F2:=A3 F1 h5_ h5__;refine CT (by simp [F2] <;> omega) ?_;refine SQ [] [none] fun _ _ g r=>?_;try simp [F2]
   and_intros <;> first | exact GK g | apply r | omega | (simp [maxLen,F2] <;> omega)
   refine WK [(4,AV.bool true)] [] 0 (by simp [F2]) (by simp [F2]) ?_;simp only [Option.some.injEq] at hF;subst hF;refine AW.ret (hQ _ _ _ ?_ (AaI ?_)).1
   ·simp [Try.f20,F2]
   ·simp [F2]
  ·replace hF:=Aah h5 hF;have h5_:=Abg h5;have h5__:=Abi h5;have F3:=A4 F1 h5 h5_ h5__;refine CF (by simp [F3] <;> omega) ?_;refine AW.skip ?_;refine hK154 _ _ _ ?_;refine RG [] [none,none,none] fun _ _ g r=>?_;try simp [F3]
   and_intros <;> first | exact GK g | apply r | omega | (simp [maxLen,F3] <;> omega)
   refine hK148 _ _ _ ?_;exact NX (k':=n1) (IntKind.wrap .i64 (v3+1)) hF (by simp [F3]) (by simp [F3])
 ·replace hF:=Aah h1 hF;have h1_:=h1;try simp at h1_
  refine CF (by simp [h1,h1_] <;> omega) ?_;refine AW.exit ?_;try simp
  refine hK119 _ _ _ ?_;refine SQ [] [none] fun _ _ g r=>?_;try simp [h1,h1_]
  and_intros <;> first | exact GK g | apply r | omega | (simp [h1,h1_,maxLen] <;> omega)
  refine WK [(4,AV.bool false)] [] 0 (by simp [h1,h1_]) (by simp [h1,h1_]) ?_;simp only [Option.some.injEq] at hF;subst hF;refine AW.ret (hQ _ _ _ ?_ (AaI ?_)).1
  ·simp [Try.f20,h1,h1_]
  ·simp [h1,h1_]
theorem AfG (k : Nat) (v0 : Int) (v1 : Int) (v2 : Int) (v3 : Int) (v4 : Int) (v5 : Int) (v6 : Bool) (hF : Acp k v0 v1 v2 v3 v4 v5=some v6) :
 AbF Try.prog 92 [AV.agg [AV.int .i64 v0,AV.int .i64 v1,AV.int .i64 v2],AV.agg [AV.int .i64 v3,AV.int .i64 v4,AV.int .i64 v5]] [] (AV.bool v6) []:=by
 unfold Acp at hF;refine EN Try.func92 ?_;intro c0 w0 Q h0 hQ
 refine WK [(0,AV.agg [Iz v0,Iz v1,Iz v2]),(1,AV.agg [Iz v3,Iz v4,Iz v5])] [] 0 (by simp) (by simp) ?_;refine SQ [] [none,none,none] fun _ _ g r=>?_;try simp
 and_intros <;> first | exact GK g | apply r | omega | (simp [maxLen] <;> omega)
 refine WK [(2,AV.ptr 0 0),(3,AV.ptr 1 0)] [(0,.cells [Iz v0,Iz v1,Iz v2]),(1,.cells [Iz v3,Iz v4,Iz v5])] 2 (by simp) (by simp) ?_;refine SQ [] [none,none,none,none,none,none,some (10,false),some (10,false),some (10,false),some (10,false),some (10,false),some (10,false),some (16,true),some (16,true),some (16,true),some (16,true),some (16,true),some (10,false),none,none] fun _ _ g r=>?_;by_cases h1 : v0<v3
 ·replace hF:=Aag h1 hF;have h1_:=h1;try simp at h1_
  try simp [h1,h1_]
  and_intros <;> first | exact GK g | apply r | omega | (simp [h1,h1_,maxLen] <;> omega)
  refine WK [(4,AV.bool true)] [] 2 (by simp [h1,h1_]) (by simp [h1,h1_]) ?_;simp only [Option.some.injEq] at hF;subst hF;refine AW.ret (hQ _ _ _ ?_ (AaI ?_)).1
  ·simp [Try.f92,h1,h1_]
  ·simp [h1,h1_]
 ·replace hF:=Aah h1 hF;have h1_:=h1;try simp at h1_
  by_cases h2 : v0=v3
  ·replace hF:=Aag h2 hF;have h2q : v0=v3:=h2;have h2_:=Abm h2q;have h2__:=Abl h2q;have F1:=A4 h1 h1_ h2_ h2__;try simp [F1]
   and_intros <;> first | exact GK g | apply r | omega | (simp [maxLen,F1] <;> omega)
   refine WK [(4,AV.bool (decide (v1<v4)))] [] 2 (by simp [F1]) (by simp [F1]) ?_;simp only [Option.some.injEq] at hF;subst hF;refine AW.ret (hQ _ _ _ ?_ (AaI ?_)).1
   ·simp [Try.f92,F1]
   ·simp [F1]
  ·replace hF:=Aah h2 hF;have h2_:=Abg h2;have h2__:=Abi h2;have F2:=A5 h1 h1_ h2 h2_ h2__;try simp [F2]
   and_intros <;> first | exact GK g | apply r | omega | (simp [maxLen,F2] <;> omega)
   refine WK [(4,AV.bool false)] [] 2 (by simp [F2]) (by simp [F2]) ?_;simp only [Option.some.injEq] at hF;subst hF;refine AW.ret (hQ _ _ _ ?_ (AaI ?_)).1
   ·simp [Try.f92,F2]
   ·simp [F2]
theorem Ah6 (k : Nat) (v0 : Int) (v1 : (List AaA)) (v2 : (List Int)) (v3 : Int) (hF : Aa0 k v0 v1 v2=some v3) :
 AbF Try.prog 63 [AV.agg [AV.int .i64 v0,Q0 v1,AV.lst false false (List.map (AV.int .i64) v2)]] [] (AV.int .i64 v3) []:=by
 unfold Aa0 at hF;refine EN Try.func63 ?_;intro c0 w0 Q h0 hQ
 refine WK [(0,AV.agg [Iz v0,Q0 v1,Lz v2])] [] 0 (by simp) (by simp) ?_;refine SQ [] [none,none] fun _ _ g r=>?_;try simp
 and_intros <;> first | exact GK g | apply r | omega | (simp [maxLen] <;> omega)
 refine WK [(1,AV.ptr 0 0)] [(0,.cells [Iz v0,Q0 v1,Lz v2])] 1 (by simp) (by simp) ?_;refine AW.seq fun K401 hK401=>?_;refine SQ [] [none,none,none,none,some (8,false),some (8,false),some (8,false),none,none,some (13,false),some (13,false),some (13,false),some (13,false),none,none,some (19,false),some (19,false),some (19,false),some (19,false),some (19,false),some (19,false),none] fun _ _ g r=>?_;by_cases h1 : v0<0
 ·replace hF:=Aag h1 hF;have h1_:=h1;try simp at h1_
  try simp [h1,h1_]
  and_intros <;> first | exact GK g | apply r | omega | (simp [h1,h1_,maxLen] <;> omega)
  refine WK [(1,AV.ptr 0 0),(26,AV.bool true)] [(0,.cells [Iz v0,Q0 v1,Lz v2])] 1 (by simp [h1,h1_]) (by simp [h1,h1_]) ?_;refine CT (by simp [h1,h1_]) ?_;refine SQ [] [none] fun _ _ g r=>?_;try simp [h1,h1_]
  and_intros <;> first | exact GK g | apply r | omega | (simp [h1,h1_,maxLen] <;> omega)
  refine WK [(2,Iz 14)] [] 1 (by simp [h1,h1_]) (by simp [h1,h1_]) ?_;simp only [Option.some.injEq] at hF;subst hF;refine AW.ret (hQ _ _ _ ?_ (AaI ?_)).1
  ·simp [Try.f63,h1,h1_]
  ·simp [h1,h1_]
 ·replace hF:=Aah h1 hF;have h1_:=h1;try simp at h1_
  by_cases h2 : 64<v0
  ·replace hF:=Aag h2 hF;have h2_:=h2;try simp at h2_
   have F1:=A4 h1 h1_ h2 h2_;try simp [F1]
   and_intros <;> first | exact GK g | apply r | omega | (simp [maxLen,F1] <;> omega)
   refine WK [(1,AV.ptr 0 0),(26,AV.bool true)] [(0,.cells [Iz v0,Q0 v1,Lz v2])] 1 (by simp [F1]) (by simp [F1]) ?_;refine CT (by simp [F1]) ?_;refine SQ [] [none] fun _ _ g r=>?_;try simp [F1]
   and_intros <;> first | exact GK g | apply r | omega | (simp [maxLen,F1] <;> omega)
   refine WK [(2,Iz 14)] [] 1 (by simp [F1]) (by simp [F1]) ?_;simp only [Option.some.injEq] at hF;subst hF;refine AW.ret (hQ _ _ _ ?_ (AaI ?_)).1
   ·simp [Try.f63,F1]
   ·simp [F1]
  ·replace hF:=Aah h2 hF;have h2_:=h2;try simp at h2_
   by_cases h3 : 500<(v1.length : Int)
   ·replace hF:=Aag h3 hF;have h3_:=h3;try simp at h3_
    have F2:=A6 h1 h1_ h2 h2_ h3 h3_;try simp [F2]
    and_intros <;> first | exact GK g | apply r | omega | (simp [maxLen,F2] <;> omega)
    refine WK [(1,AV.ptr 0 0),(26,AV.bool true)] [(0,.cells [Iz v0,Q0 v1,Lz v2])] 1 (by simp [F2]) (by simp [F2]) ?_;refine CT (by simp [F2]) ?_;refine SQ [] [none] fun _ _ g r=>?_;try simp [F2]
    and_intros <;> first | exact GK g | apply r | omega | (simp [maxLen,F2] <;> omega)
    refine WK [(2,Iz 14)] [] 1 (by simp [F2]) (by simp [F2]) ?_;simp only [Option.some.injEq] at hF;subst hF;refine AW.ret (hQ _ _ _ ?_ (AaI ?_)).1
    ·simp [Try.f63,F2]
    ·simp [F2]
   ·replace hF:=Aah h3 hF;have h3_:=h3;try simp at h3_
    have F3:=A6 h1 h1_ h2 h2_ h3 h3_;try simp [F3]
    and_intros
    try any_goals first | omega | (simp [maxLen,F3] <;> omega)
    obtain ⟨v4,h4,hF⟩:=AaQ hF;refine AC (Ajq k _ _ _ h4) (.cons (.same (by simp [F3])) (.cons (.same (by simp [F3])) .nil)) ?_;try simp [F3]
    and_intros <;> first | exact GK g | apply r | omega | (simp [maxLen,F3] <;> omega)
    refine WK [(1,AV.ptr 0 0),(26,AV.bool (!v4))] [(0,.cells [Iz v0,Q0 v1,Lz v2])] 1 (by simp [F3]) (by simp [F3]) ?_;by_cases h5 : (!v4)=true
    ·replace hF:=Aag h5 hF;have h5_:=h5;try simp at h5_
     have F4:=A3 F3 h5 h5_;refine CT (by simp [F4] <;> omega) ?_;refine SQ [] [none] fun _ _ g r=>?_;try simp [F4]
     and_intros <;> first | exact GK g | apply r | omega | (simp [maxLen,F4] <;> omega)
     refine WK [(2,Iz 14)] [] 1 (by simp [F4]) (by simp [F4]) ?_;simp only [Option.some.injEq] at hF;subst hF;refine AW.ret (hQ _ _ _ ?_ (AaI ?_)).1
     ·simp [Try.f63,F4]
     ·simp [F4]
    ·replace hF:=Aah h5 hF;have h5_:=h5;try simp at h5_
     have F5:=A3 F3 h5 h5_;refine CF (by simp [F5] <;> omega) ?_;refine AW.skip ?_;refine hK401 _ _ _ ?_;refine AW.seq fun K597 hK597=>?_;refine SQ [] [none] fun _ _ g r=>?_;try simp [F5]
     and_intros <;> first | exact GK g | apply r | omega | (simp [maxLen,F5] <;> omega)
     refine WK [(1,AV.ptr 0 0),(3,Iz 0)] [(0,.cells [Iz v0,Q0 v1,Lz v2])] 1 (by simp [F5]) (by simp [F5]) ?_;refine AW.block ?_;refine AW.loopF (α:=Int) (fun n v5=>Aa0.L1 k v0 v1 v2 n v5=some v3) (fun v5=>[(1,AV.ptr 0 0),(3,Iz v5)]) (fun v5=>[(0,.cells [Iz v0,Q0 v1,Lz v2])]) 1 k (0) hF (by simp [F5]) (by simp [F5]) (by simp) ?_;rintro (_|n1) v5 hF K740 hK740
     ·try dsimp only at hF
      rw [Aa0.L1] at hF; cases hF
     try dsimp only at hF
     rw [Aa0.L1] at hF;refine AW.seq fun K742 hK742=>?_;refine SQ [] [none,none,none,none,none] fun _ _ g r=>?_;try simp [F5]
     and_intros <;> first | exact GK g | apply r | omega | (simp [maxLen,F5] <;> omega)
     refine WK [(1,AV.ptr 0 0),(3,Iz v5),(31,AV.bool (decide (v5<(v1.length : Int))))] [(0,.cells [Iz v0,Q0 v1,Lz v2])] 1 (by simp [F5]) (by simp [F5]) ?_;by_cases h6 : v5<(v1.length : Int)
     ·replace hF:=Aag h6 hF;have h6_:=h6;try simp at h6_
      have F6:=A3 F5 h6 h6_;refine CT (by simp [F6] <;> omega) ?_;refine AW.skip ?_;refine hK742 _ _ _ ?_;refine AW.seq fun K765 hK765=>?_;refine AW.block ?_;refine SQ [] [none,none,none,none,none,none,none] fun _ _ g r=>?_;obtain ⟨v6,h7,h8,h9,hF⟩:=Aam hF;have h9_:=Aa2 h9;try simp at h9_
      have h8_:=h8;try simp at h8_
      have F7:=A6 F6 h7 h8 h9 h9_ h8_;try simp [F7]
      and_intros <;> first | exact GK g | apply r | omega | (simp [maxLen,F7] <;> omega)
      refine WK [(1,AV.ptr 0 0),(3,Iz v5),(4,AV.ptr 1 0)] [(0,.cells [Iz v0,Q0 v1,Lz v2]),(1,.cells [Iz v6.From,Iz v6.To,Iz v6.Level])] 2 (by simp [F7]) (by simp [F7]) ?_;refine AW.seq fun K775 hK775=>?_;refine SQ [] [none,none,none,none,some (42,false),some (42,false),some (42,false),some (42,false),some (42,false),none,none,some (49,false),some (49,false),some (49,false),none,none,some (54,false),some (54,false),some (54,false),some (54,false),some (54,false),none,none,some (61,false),some (61,false),some (61,false),some (61,false),some (61,false),none,none,some (68,false),some (68,false),some (68,false),none,none,some (73,false),some (73,false),some (73,false),none] fun _ _ g r=>?_;by_cases h10 : v6.From<0
      ·replace hF:=Aag h10 hF;have h10_:=h10;try simp at h10_
       have F8:=A3 F7 h10 h10_;try simp [F8]
       and_intros <;> first | exact GK g | apply r | omega | (simp [maxLen,F8] <;> omega)
       refine WK [(1,AV.ptr 0 0),(3,Iz v5),(4,AV.ptr 1 0),(77,AV.bool true)] [(0,.cells [Iz v0,Q0 v1,Lz v2]),(1,.cells [Iz v6.From,Iz v6.To,Iz v6.Level])] 2 (by simp [F8]) (by simp [F8]) ?_;refine CT (by simp [F8]) ?_;refine SQ [] [none] fun _ _ g r=>?_;try simp [F8]
       and_intros <;> first | exact GK g | apply r | omega | (simp [maxLen,F8] <;> omega)
       refine WK [(2,Iz 14)] [] 2 (by simp [F8]) (by simp [F8]) ?_;simp only [Option.some.injEq] at hF;subst hF;refine AW.ret (hQ _ _ _ ?_ (AaI ?_)).1
       ·simp [Try.f63,F8]
       ·simp [F8]
      ·replace hF:=Aah h10 hF;have h10_:=h10;try simp at h10_
       by_cases h11 : v0≤v6.From
       ·replace hF:=Aag h11 hF;have h11_:=h11;try simp at h11_
        have F9:=A5 F7 h10 h10_ h11 h11_;try simp [F9]
        and_intros <;> first | exact GK g | apply r | omega | (simp [maxLen,F9] <;> omega)
        refine WK [(1,AV.ptr 0 0),(3,Iz v5),(4,AV.ptr 1 0),(77,AV.bool true)] [(0,.cells [Iz v0,Q0 v1,Lz v2]),(1,.cells [Iz v6.From,Iz v6.To,Iz v6.Level])] 2 (by simp [F9]) (by simp [F9]) ?_;refine CT (by simp [F9]) ?_;refine SQ [] [none] fun _ _ g r=>?_;try simp [F9]
        and_intros <;> first | exact GK g | apply r | omega | (simp [maxLen,F9] <;> omega)
        refine WK [(2,Iz 14)] [] 2 (by simp [F9]) (by simp [F9]) ?_;simp only [Option.some.injEq] at hF;subst hF;refine AW.ret (hQ _ _ _ ?_ (AaI ?_)).1
        ·simp [Try.f63,F9]
        ·simp [F9]
       ·replace hF:=Aah h11 hF;have h11_:=h11;try simp at h11_
        by_cases h12 : v6.To<0
        ·replace hF:=Aag h12 hF;have h12_:=h12;try simp at h12_
         have F10:=A7 F7 h10 h10_ h11 h11_ h12 h12_;try simp [F10]
         and_intros <;> first | exact GK g | apply r | omega | (simp [maxLen,F10] <;> omega)
         refine WK [(1,AV.ptr 0 0),(3,Iz v5),(4,AV.ptr 1 0),(77,AV.bool true)] [(0,.cells [Iz v0,Q0 v1,Lz v2]),(1,.cells [Iz v6.From,Iz v6.To,Iz v6.Level])] 2 (by simp [F10]) (by simp [F10]) ?_;refine CT (by simp [F10]) ?_;refine SQ [] [none] fun _ _ g r=>?_;try simp [F10]
         and_intros <;> first | exact GK g | apply r | omega | (simp [maxLen,F10] <;> omega)
         refine WK [(2,Iz 14)] [] 2 (by simp [F10]) (by simp [F10]) ?_;simp only [Option.some.injEq] at hF;subst hF;refine AW.ret (hQ _ _ _ ?_ (AaI ?_)).1
         ·simp [Try.f63,F10]
         ·simp [F10]
        ·replace hF:=Aah h12 hF;have h12_:=h12;try simp at h12_
         by_cases h13 : v0≤v6.To
         ·replace hF:=Aag h13 hF;have h13_:=h13;try simp at h13_
          have F11:=A9 F7 h10 h10_ h11 h11_ h12 h12_ h13 h13_;try simp [F11]
          and_intros <;> first | exact GK g | apply r | omega | (simp [maxLen,F11] <;> omega)
          refine WK [(1,AV.ptr 0 0),(3,Iz v5),(4,AV.ptr 1 0),(77,AV.bool true)] [(0,.cells [Iz v0,Q0 v1,Lz v2]),(1,.cells [Iz v6.From,Iz v6.To,Iz v6.Level])] 2 (by simp [F11]) (by simp [F11]) ?_;refine CT (by simp [F11]) ?_;refine SQ [] [none] fun _ _ g r=>?_;try simp [F11]
          and_intros <;> first | exact GK g | apply r | omega | (simp [maxLen,F11] <;> omega)
          refine WK [(2,Iz 14)] [] 2 (by simp [F11]) (by simp [F11]) ?_;simp only [Option.some.injEq] at hF;subst hF;refine AW.ret (hQ _ _ _ ?_ (AaI ?_)).1
          ·simp [Try.f63,F11]
          ·simp [F11]
         ·replace hF:=Aah h13 hF;have h13_:=h13;try simp at h13_
          by_cases h14 : v6.From=v6.To
          ·replace hF:=Aag h14 hF;have h14q : v6.From=v6.To:=h14;have h14_:=Abm h14q;have h14__:=Abl h14q;have F12:=A9 F7 h10 h10_ h11 h11_ h12 h12_ h13 (A3 h13_ h14_ h14__);try simp [F12]
           and_intros <;> first | exact GK g | apply r | omega | (simp [maxLen,F12] <;> omega)
           refine WK [(1,AV.ptr 0 0),(3,Iz v5),(4,AV.ptr 1 0),(77,AV.bool true)] [(0,.cells [Iz v0,Q0 v1,Lz v2]),(1,.cells [Iz v6.From,Iz v6.To,Iz v6.Level])] 2 (by simp [F12]) (by simp [F12]) ?_;refine CT (by simp [F12]) ?_;refine SQ [] [none] fun _ _ g r=>?_;try simp [F12]
           and_intros <;> first | exact GK g | apply r | omega | (simp [maxLen,F12] <;> omega)
           refine WK [(2,Iz 14)] [] 2 (by simp [F12]) (by simp [F12]) ?_;simp only [Option.some.injEq] at hF;subst hF;refine AW.ret (hQ _ _ _ ?_ (AaI ?_)).1
           ·simp [Try.f63,F12]
           ·simp [F12]
          ·replace hF:=Aah h14 hF;have h14_:=Abg h14;have h14__:=Abi h14;by_cases h15 : v6.Level<1
           ·replace hF:=Aag h15 hF;have h15_:=h15;try simp at h15_
            have F13:=A9 F7 h10 h10_ h11 h11_ h12 h12_ h13 (A6 h13_ h14 h14_ h14__ h15 h15_);try simp [F13]
            and_intros <;> first | exact GK g | apply r | omega | (simp [maxLen,F13] <;> omega)
            refine WK [(1,AV.ptr 0 0),(3,Iz v5),(4,AV.ptr 1 0),(77,AV.bool true)] [(0,.cells [Iz v0,Q0 v1,Lz v2]),(1,.cells [Iz v6.From,Iz v6.To,Iz v6.Level])] 2 (by simp [F13]) (by simp [F13]) ?_;refine CT (by simp [F13]) ?_;refine SQ [] [none] fun _ _ g r=>?_;try simp [F13]
            and_intros <;> first | exact GK g | apply r | omega | (simp [maxLen,F13] <;> omega)
            refine WK [(2,Iz 14)] [] 2 (by simp [F13]) (by simp [F13]) ?_;simp only [Option.some.injEq] at hF;subst hF;refine AW.ret (hQ _ _ _ ?_ (AaI ?_)).1
            ·simp [Try.f63,F13]
            ·simp [F13]
           ·replace hF:=Aah h15 hF;have h15_:=h15;try simp at h15_
            have F14:=A9 F7 h10 h10_ h11 h11_ h12 h12_ h13 (A6 h13_ h14 h14_ h14__ h15 h15_);try simp [F14]
            and_intros <;> first | exact GK g | apply r | omega | (simp [maxLen,F14] <;> omega)
            refine WK [(1,AV.ptr 0 0),(3,Iz v5),(4,AV.ptr 1 0),(77,AV.bool (decide (3<v6.Level)))] [(0,.cells [Iz v0,Q0 v1,Lz v2]),(1,.cells [Iz v6.From,Iz v6.To,Iz v6.Level])] 2 (by simp [F14]) (by simp [F14]) ?_;by_cases h16 : 3<v6.Level
            ·replace hF:=Aag h16 hF;have h16_:=h16;try simp at h16_
             have F15:=A3 F14 h16 h16_;refine CT (by simp [F15] <;> omega) ?_;refine SQ [] [none] fun _ _ g r=>?_;try simp [F15]
             and_intros <;> first | exact GK g | apply r | omega | (simp [maxLen,F15] <;> omega)
             refine WK [(2,Iz 14)] [] 2 (by simp [F15]) (by simp [F15]) ?_;simp only [Option.some.injEq] at hF;subst hF;refine AW.ret (hQ _ _ _ ?_ (AaI ?_)).1
             ·simp [Try.f63,F15]
             ·simp [F15]
            ·replace hF:=Aah h16 hF;have h16_:=h16;try simp at h16_
             have F16:=A3 F14 h16 h16_;refine CF (by simp [F16] <;> omega) ?_;refine AW.skip ?_;refine hK775 _ _ _ ?_;refine AW.midF (α:=Bool) (fun v7=>Aa0.J2 k v5 (fun v5_=>Aa0.L1 k v0 v1 v2 n1 v5_) v7=some v3) (fun v7=>[(1,AV.ptr 0 0),(3,Iz v5),(104,AV.bool v7)]) (fun v7=>[(0,.cells [Iz v0,Q0 v1,Lz v2])]) 1 (fun K787 hK787=>?_) ?_
             ·refine RG [] [none,none,none,some (80,true),some (80,true),some (80,true),some (80,true),some (80,true),some (80,true),some (80,true),some (80,true),some (80,true),none,none,some (91,false),some (91,false),some (91,false),some (91,false),some (91,false),none,none,some (98,false),some (98,false),some (98,false),some (98,false),some (98,false),none] fun _ _ g r=>?_;by_cases h18 : 0<v5
              ·replace hF:=Aag h18 hF;have h18_:=h18;try simp at h18_
               obtain ⟨v8,h19,h20,h21,hF⟩:=Aam hF;have h21_:=Aa2 h21;try simp at h21_
               have h20_:=h20;try simp at h20_
               have F17:=A8 F16 h18 h18_ h19 h20 h21 h21_ h20_;try simp [F17]
               and_intros
               try any_goals first | omega | (simp [maxLen,F17] <;> omega)
               obtain ⟨v9,h22,hF⟩:=AaQ hF;refine AC (AfG k _ _ _ _ _ _ _ h22) (.cons (.same (by simp [F17])) (.cons (.same (by simp [F17])) .nil)) ?_;by_cases h23 : (!v9)=true
               ·replace hF:=Aag h23 hF;have h23_:=h23;try simp at h23_
                have F18:=A3 F17 h23 h23_;try simp [F18]
                and_intros <;> first | exact GK g | apply r | omega | (simp [maxLen,F18] <;> omega)
                refine hK787 _ _ _ ?_;refine RN h0 [(0,0)] [(1,AV.ptr 0 0),(3,Iz v5),(104,AV.bool true)] [(0,.cells [Iz v0,Q0 v1,Lz v2])] 1 (by simp [F18]) (by simp [F18]) ?_;exact JN (true) hF (by simp [F18]) (by simp [F18])
               ·replace hF:=Aah h23 hF;have h23_:=h23;try simp at h23_
                have F19:=A3 F17 h23 h23_;try simp [F19]
                and_intros
                try any_goals first | omega | (simp [maxLen,F19] <;> omega)
                obtain ⟨v10,h24,hF⟩:=AaQ hF;refine AC (Ack k _ _ _ h24) (.cons (.same (by simp [F19])) (.cons (.same (by simp [F19])) .nil)) ?_;by_cases h25 : v10=true
                ·replace hF:=Aag h25 hF;have h25_:=h25;try simp at h25_
                 have F20:=A3 F19 h25 h25_;try simp [F20]
                 and_intros <;> first | exact GK g | apply r | omega | (simp [maxLen,F20] <;> omega)
                 refine hK787 _ _ _ ?_;refine RN h0 [(0,0)] [(1,AV.ptr 0 0),(3,Iz v5),(104,AV.bool true)] [(0,.cells [Iz v0,Q0 v1,Lz v2])] 1 (by simp [F20]) (by simp [F20]) ?_;exact JN (true) hF (by simp [F20]) (by simp [F20])
                ·replace hF:=Aah h25 hF;have h25_:=h25;try simp at h25_
                 have F21:=A3 F19 h25 h25_;try simp [F21]
                 and_intros
                 try any_goals first | omega | (simp [maxLen,F21] <;> omega)
                 obtain ⟨v11,h26,hF⟩:=AaQ hF;refine AC (Ack k _ _ _ h26) (.cons (.same (by simp [F21])) (.cons (.same (by simp [F21])) .nil)) ?_;try simp [F21]
                 and_intros <;> first | exact GK g | apply r | omega | (simp [maxLen,F21] <;> omega)
                 refine hK787 _ _ _ ?_;refine RN h0 [(0,0)] [(1,AV.ptr 0 0),(3,Iz v5),(104,AV.bool v11)] [(0,.cells [Iz v0,Q0 v1,Lz v2])] 1 (by simp [F21]) (by simp [F21]) ?_;exact JN (v11) hF (by simp [F21]) (by simp [F21])
              ·replace hF:=Aah h18 hF;have h18_:=h18;try simp at h18_
               have F22:=A3 F16 h18 h18_;try simp [F22]
               and_intros
               try any_goals first | omega | (simp [maxLen,F22] <;> omega)
               obtain ⟨v12,h27,hF⟩:=AaQ hF;refine AC (Ack k _ _ _ h27) (.cons (.same (by simp [F22])) (.cons (.same (by simp [F22])) .nil)) ?_;by_cases h28 : v12=true
               ·replace hF:=Aag h28 hF;have h28_:=h28;try simp at h28_
                have F23:=A3 F22 h28 h28_;try simp [F23]
                and_intros <;> first | exact GK g | apply r | omega | (simp [maxLen,F23] <;> omega)
                refine hK787 _ _ _ ?_;refine RN h0 [(0,0)] [(1,AV.ptr 0 0),(3,Iz v5),(104,AV.bool true)] [(0,.cells [Iz v0,Q0 v1,Lz v2])] 1 (by simp [F23]) (by simp [F23]) ?_;exact JN (true) hF (by simp [F23]) (by simp [F23])
               ·replace hF:=Aah h28 hF;have h28_:=h28;try simp at h28_
                have F24:=A3 F22 h28 h28_;try simp [F24]
                and_intros
                try any_goals first | omega | (simp [maxLen,F24] <;> omega)
                obtain ⟨v13,h29,hF⟩:=AaQ hF;refine AC (Ack k _ _ _ h29) (.cons (.same (by simp [F24])) (.cons (.same (by simp [F24])) .nil)) ?_;try simp [F24]
                and_intros <;> first | exact GK g | apply r | omega | (simp [maxLen,F24] <;> omega)
                refine hK787 _ _ _ ?_;refine RN h0 [(0,0)] [(1,AV.ptr 0 0),(3,Iz v5),(104,AV.bool v13)] [(0,.cells [Iz v0,Q0 v1,Lz v2])] 1 (by simp [F24]) (by simp [F24]) ?_;exact JN (v13) hF (by simp [F24]) (by simp [F24])
             ·rintro v7 hF
              try dsimp only at hF
              unfold Aa0.J2 at hF;by_cases h17 : v7=true
              ·replace hF:=Aag h17 hF;have h17_:=h17;try simp at h17_
               have F25:=A3 F16 h17 h17_;refine CT (by simp [F25] <;> omega) ?_;refine SQ [] [none] fun _ _ g r=>?_;try simp [F25]
               and_intros <;> first | exact GK g | apply r | omega | (simp [maxLen,F25] <;> omega)
               refine WK [(2,Iz 14)] [] 1 (by simp [F25]) (by simp [F25]) ?_;simp only [Option.some.injEq] at hF;subst hF;refine AW.ret (hQ _ _ _ ?_ (AaI ?_)).1
               ·simp [Try.f63,F25]
               ·simp [F25]
              ·replace hF:=Aah h17 hF;have h17_:=h17;try simp at h17_
               have F26:=A3 F16 h17 h17_;refine CF (by simp [F26] <;> omega) ?_;refine AW.skip ?_;refine hK765 _ _ _ ?_;refine RG [] [none,none,none] fun _ _ g r=>?_;try simp [F26]
               and_intros <;> first | exact GK g | apply r | omega | (simp [maxLen,F26] <;> omega)
               refine hK740 _ _ _ ?_;exact NX (k':=n1) (IntKind.wrap .i64 (v5+1)) hF (by simp [F26]) (by simp [F26])
     ·replace hF:=Aah h6 hF;have h6_:=h6;try simp at h6_
      have F27:=A3 F5 h6 h6_;refine CF (by simp [F27] <;> omega) ?_;refine AW.exit ?_;try simp
      refine hK597 _ _ _ ?_;refine SQ [] [none] fun _ _ g r=>?_;try simp [F27]
      and_intros <;> first | exact GK g | apply r | omega | (simp [maxLen,F27] <;> omega)
      refine WK [(2,Iz 0)] [] 1 (by simp [F27]) (by simp [F27]) ?_;simp only [Option.some.injEq] at hF;subst hF;refine AW.ret (hQ _ _ _ ?_ (AaI ?_)).1
      ·simp [Try.f63,F27]
      ·simp [F27]
end Go.TF
