import Derived.Test.YtelffnegemdicaaPczWal30
import Derived.Test.YtelffnegemdicaaPczWal31
import Derived.Test.YtelffnegemdicaaPczWal32
import Derived.Test.YtelffnegemdicaaPczWal33
import Derived.Test.YtelffnegemdicaaPczWal34
set_option linter.unusedVariables false
set_option linter.unusedSimpArgs false
set_option maxRecDepth 100000
set_option maxHeartbeats 4000000
namespace Go.TF
open Go Go.Abs Go.Proofs Go.Proofs.YtelffnegemdicaaPcT
theorem Aga (k : Nat) (v0 : Int) (v1 : (List AaA)) (v2 : (List Int)) (v3 : Int) (v4 : Int) (v5 : Int) (v6 : Int) (hF : Ae8 k v0 v1 v2 v3 v4 v5=some v6) :
 AbF Try.prog 31 [AV.agg [AV.int .i64 v0,Q0 v1,AV.lst false false (List.map (AV.int .i64) v2)],AV.int .i64 v3,AV.int .i64 v4,AV.int .i64 v5] [] (AV.int .i64 v6) []:=by
 unfold Ae8 at hF;refine EN Try.func31 ?_;intro c0 w0 Q h0 hQ
 refine WK [(0,AV.agg [Iz v0,Q0 v1,Lz v2]),(1,Iz v3),(2,Iz v4),(3,Iz v5)] [] 0 (by simp) (by simp) ?_;refine SW trivial [] [none,none] [0] [(4,AV.ptr 0 0)] [] [(0,.cells [Iz v0,Q0 v1,Lz v2])] 1 ?_;refine AW.seq fun K13 hK13=>?_;obtain ⟨v7,h1,hF⟩:=AaN hF;refine CL trivial [] [none,none,none,none,none,none] (Ada k _ _ _ _ _ _ _ h1) [] [(17,AV.bool (!v7))] [] [] 1 ?_;by_cases h2 : (!v7)=true
 ·replace hF:=AaZ h2 hF;have h2_:=h2;try simp at h2_
  refine CT (by simp [h2,h2_] <;> omega) ?_;refine SW (A2 h2 h2_) [] [none] [1,2,3,4,17] [(8,Iz 0)] [0] [] 1 ?_;simp only [Option.some.injEq] at hF;subst hF;refine AW.ret (hQ _ _ _ ?_ (AaJ ?_)).1
  ·simp [Try.f31,h2,h2_]
  ·simp [h2,h2_]
 ·replace hF:=Aaa h2 hF;have h2_:=h2;try simp at h2_
  refine CF (by simp [h2,h2_] <;> omega) ?_;refine AW.skip ?_;refine hK13 _ _ _ ?_;obtain ⟨v8,v9,h3,hF⟩:=AbX hF;refine CL (A2 h2 h2_) [] [none,none,none,none,none,none,none] (Aeg k _ _ _ _ _ _ _ _ h3) [1,2,3,4,17] [(9,AV.ptr 2 0)] [0] [(1,.grow (AaM (List.map AaI.av v9))),(2,.cells [Iz v8,AV.slc 1 0 3 v9.length false])] 3 ?_;refine AW.frz 1 (o := .grow (AaM (List.map AaI.av v9))) (by simp [h2,h2_]) rfl [] [(2,.cells [Iz v8,Q1 v9])] trivial ⟨⟨by simp,Aau.cells [Iz v8,AV.slc 1 0 3 v9.length false],by simp [h2,h2_],(.mk (.cons (.same _) (.cons (.l (by simp) (by simp) (by simp) (by simp)) .nil)))⟩,trivial⟩ ?_;refine WK [(9,AV.ptr 2 0)] [(2,.cells [Iz v8,Q1 v9])] 3 (by simp [h2,h2_]) (by simp [h2,h2_]) ?_;obtain ⟨v10,v11,h4,hF⟩:=AbX hF;refine CL (A2 h2 h2_) [] [none,none,none,none,none,none,none] (Ahk k _ _ _ _ h4) [] [(10,AV.slc 3 0 1 v10.length false)] [] [(3,Gi v10)] 4 ?_;refine AW.frz 3 (o:=Gi v10) (by simp [h2,h2_]) rfl [(10,Lz v10)] [] ⟨(.l (by simp) (by simp) (by simp) (by simp)),trivial⟩ trivial ?_;refine WK [(9,AV.ptr 2 0),(10,Lz v10)] [(2,.cells [Iz v8,Q1 v9])] 4 (by simp [h2,h2_]) (by simp [h2,h2_]) ?_;obtain ⟨v12,h5,hF⟩:=AaN hF;refine CL (A2 h2 h2_) [] [none,none,none,none] (Agb k _ _ _ _ h5) [9,10] [(8,Iz v12)] [2] [] 4 ?_;simp only [Option.some.injEq] at hF;subst hF;refine AW.ret (hQ _ _ _ ?_ (AaJ ?_)).1
  ·simp [Try.f31,h2,h2_]
  ·simp [h2,h2_]
theorem AhV (k : Nat) (v0 : Int) (v1 : Int) (v2 : Int) (v3 : Int) (v4 : Int) (v5 : Int) (v6 : Bool) (hF : AdP k v0 v1 v2 v3 v4 v5=some v6) :
 AbF Try.prog 85 [AV.agg [AV.int .i64 v0,AV.int .i64 v1,AV.int .i64 v2],AV.ptr 0 0,AV.ptr 1 0,AV.ptr 2 0] [.cells [AV.int .i64 v3],.cells [AV.int .i64 v4],.cells [AV.int .i64 v5]] (AV.bool v6) [some (.cells [AV.int .i64 v3]),some (.cells [AV.int .i64 v4]),some (.cells [AV.int .i64 v5])]:=by
 unfold AdP at hF;refine EN Try.func85 ?_;intro c0 w0 Q h0 hQ
 refine WK [(0,AV.agg [Iz v0,Iz v1,Iz v2]),(1,AV.ptr 0 0),(2,AV.ptr 1 0),(3,AV.ptr 2 0)] [(0,.cells [Iz v3]),(1,.cells [Iz v4]),(2,.cells [Iz v5])] 3 (by simp) (by simp) ?_;refine SW trivial [] [none,none] [0] [(4,AV.ptr 3 0)] [] [(3,.cells [Iz v0,Iz v1,Iz v2])] 4 ?_;refine SR [] [none,none,none,none,none,some (10,true),some (10,true),some (10,true),some (10,true),none,none,some (16,true),some (16,true),some (16,true),some (16,true),none,none] fun _ _ g r=>?_;by_cases h1 : v0=v3
 ·replace hF:=AaZ h1 hF;have h1q : v0=v3:=h1;have h1_:=Abf h1q;have h1__:=Abe h1q;by_cases h2 : v1=v4
  ·replace hF:=AaZ h2 hF;have h2q : v1=v4:=h2;have h2_:=Abf h2q;have h2__:=Abe h2q;have F1:=A4 h1_ h1__ h2_ h2__;refine TL F1 g r [1,2,3,4] [(5,AV.bool (decide (v5≤v2)))] [3] [] 4 ?_;simp only [Option.some.injEq] at hF;subst hF;refine AW.ret (hQ _ _ _ ?_ (AaJ ?_)).1
   ·simp [Try.f85,F1]
   ·simp [F1]
  ·replace hF:=Aaa h2 hF;have h2_:=AbY h2;have h2__:=Abc h2;have F2:=A5 h1_ h1__ h2 h2_ h2__;refine TL F2 g r [1,2,3,4] [(5,AV.bool false)] [3] [] 4 ?_;simp only [Option.some.injEq] at hF;subst hF;refine AW.ret (hQ _ _ _ ?_ (AaJ ?_)).1
   ·simp [Try.f85,F2]
   ·simp [F2]
 ·replace hF:=Aaa h1 hF;have h1_:=AbY h1;have h1__:=Abc h1;have F3:=A3 h1 h1_ h1__;refine TL F3 g r [1,2,3,4] [(5,AV.bool false)] [3] [] 4 ?_;simp only [Option.some.injEq] at hF;subst hF;refine AW.ret (hQ _ _ _ ?_ (AaJ ?_)).1
  ·simp [Try.f85,F3]
  ·simp [F3]
theorem AcH (k : Nat) (v0 : (List AaA)) (v1 : Int) (v2 : Int) (v3 : Int) (v4 : Int) (hF : AaT k v0 v1 v2 v3=some v4) :
 AbF Try.prog 103 [Q0 v0,AV.fn 85 [AV.ptr 0 0,AV.ptr 1 0,AV.ptr 2 0]] [.cells [AV.int .i64 v1],.cells [AV.int .i64 v2],.cells [AV.int .i64 v3]] (AV.int .i64 v4) [some (.cells [AV.int .i64 v1]),some (.cells [AV.int .i64 v2]),some (.cells [AV.int .i64 v3])]:=by
 unfold AaT at hF;refine EN Try.func103 ?_;intro c0 w0 Q h0 hQ
 refine WK [(0,Q0 v0),(1,AV.fn 85 [AV.ptr 0 0,AV.ptr 1 0,AV.ptr 2 0])] [(0,.cells [Iz v1]),(1,.cells [Iz v2]),(2,.cells [Iz v3])] 3 (by simp) (by simp) ?_;refine SW trivial [] [none] [] [] [] [] 3 ?_;refine AW.seq fun K131 hK131=>?_;refine SW trivial [] [none,none,none] [] [(7,Iz (v0.length : Int)),(8,Iz 0)] [] [] 3 ?_;refine AW.block ?_;refine AW.loopF (α:=Int) (fun n v5=>AaT.L1 k v0 v1 v2 v3 n v5=some v4) (fun v5=>[(0,Q0 v0),(1,AV.fn 85 [AV.ptr 0 0,AV.ptr 1 0,AV.ptr 2 0]),(7,Iz (v0.length : Int)),(8,Iz v5)]) (fun v5=>[(0,.cells [Iz v1]),(1,.cells [Iz v2]),(2,.cells [Iz v3])]) 3 k (0) hF (by simp) (by simp) (by simp) ?_;rintro (_|n1) v5 hF K163 hK163
 ·try dsimp only at hF
  rw [AaT.L1] at hF; cases hF
 try dsimp only at hF
 rw [AaT.L1] at hF;refine SW trivial [] [none] [] [(9,AV.bool (decide (v5<(v0.length : Int))))] [] [] 3 ?_;refine AW.seq fun K165 hK165=>?_;by_cases h1 : v5<(v0.length : Int)
 ·replace hF:=AaZ h1 hF;have h1_:=h1;try simp at h1_
  refine CT (by simp [h1,h1_] <;> omega) ?_;refine AW.skip ?_;refine hK165 _ _ _ ?_;refine AW.seq fun K169 hK169=>?_;refine AW.block ?_;refine SW (A2 h1 h1_) [] [none,none] [] [(5,Iz v5)] [] [] 3 ?_;refine SR [] [none,none,none,none,none,none] fun _ _ g r=>?_;obtain ⟨v6,h2,h3,h4,hF⟩:=Aad hF;have h4_:=Aas h4;try simp at h4_
  have h3_:=h3;try simp at h3_
  have F1:=A7 h1 h1_ h2 h3 h4 h4_ h3_;try simp [F1]
  and_intros
  try any_goals first | omega | (simp [maxLen,F1] <;> omega)
  obtain ⟨v7,h5,hF⟩:=AaN hF;refine AbA (AhV k _ _ _ _ _ _ _ h5) (by simp) [0,1,2] [] [] rfl (.cons (.same (by simp [F1])) (.cons (.same (by simp [F1])) (.cons (.same (by simp [F1])) (.cons (.same (by simp [F1])) .nil)))) (by simp [F1]) (by decide) (by simp) (by simp) (.inl rfl) (by simp) (by simp) ?_;refine TL F1 g r [] [(16,AV.bool v7)] [] [] 3 ?_;by_cases h6 : v7=true
  ·replace hF:=AaZ h6 hF;have h6_:=h6;try simp at h6_
   have F2:=A3 F1 h6 h6_;refine CT (by simp [F2] <;> omega) ?_;refine SW F2 [] [none,none] [0,1,5,7,8,16] [(4,Iz v5)] [] [] 3 ?_;simp only [Option.some.injEq] at hF;subst hF;refine AW.ret (hQ _ _ _ ?_ (AaJ ?_)).1
   ·simp [Try.f103,F2]
   ·simp [F2]
  ·replace hF:=Aaa h6 hF;have h6_:=h6;try simp at h6_
   have F3:=A3 F1 h6 h6_;refine CF (by simp [F3] <;> omega) ?_;refine AW.skip ?_;refine hK169 _ _ _ ?_;refine RG [] [none,none] fun _ _ g r=>?_;try simp [F3]
   and_intros <;> first | exact GK g | apply r | omega | (simp [maxLen,F3] <;> omega)
   refine hK163 _ _ _ ?_;exact NX (k':=n1) (IntKind.wrap .i64 (v5+1)) hF (by simp [F3]) (by simp [F3])
 ·replace hF:=Aaa h1 hF;have h1_:=h1;try simp at h1_
  refine CF (by simp [h1,h1_] <;> omega) ?_;refine AW.exit ?_;try simp
  refine hK131 _ _ _ ?_;refine SW (A2 h1 h1_) [] [none] [0,1,7,8] [(4,Iz (-1))] [] [] 3 ?_;simp only [Option.some.injEq] at hF;subst hF;refine AW.ret (hQ _ _ _ ?_ (AaJ ?_)).1
  ·simp [Try.f103,h1,h1_]
  ·simp [h1,h1_]
theorem AcA (k : Nat) (v0 : (List AaA)) (v1 : Int) (v2 : Int) (v3 : Int) (v4 : Bool) (hF : Aa8 k v0 v1 v2 v3=some v4) :
 AbF Try.prog 84 [Q0 v0,AV.fn 85 [AV.ptr 0 0,AV.ptr 1 0,AV.ptr 2 0]] [.cells [AV.int .i64 v1],.cells [AV.int .i64 v2],.cells [AV.int .i64 v3]] (AV.bool v4) [some (.cells [AV.int .i64 v1]),some (.cells [AV.int .i64 v2]),some (.cells [AV.int .i64 v3])]:=by
 unfold Aa8 at hF;refine EN Try.func84 ?_;intro c0 w0 Q h0 hQ
 refine WK [(0,Q0 v0),(1,AV.fn 85 [AV.ptr 0 0,AV.ptr 1 0,AV.ptr 2 0])] [(0,.cells [Iz v1]),(1,.cells [Iz v2]),(2,.cells [Iz v3])] 3 (by simp) (by simp) ?_;refine SW trivial [] [none] [] [] [] [] 3 ?_;refine SR [] [none,none,none,none,none] fun _ _ g r=>?_;try simp
 and_intros
 try any_goals first | omega | (simp [maxLen] <;> omega)
 obtain ⟨v5,h1,hF⟩:=AaN hF;refine AbA (AcH k _ _ _ _ _ h1) (by simp) [0,1,2] [] [] rfl (.cons (.same (by simp)) (.cons (.same (by simp)) .nil)) (by simp) (by decide) (by simp) (by simp) (.inl rfl) (by simp) (by simp) ?_;refine TL trivial g r [0,1] [(4,AV.bool (decide (0≤v5)))] [] [] 3 ?_;simp only [Option.some.injEq] at hF;subst hF;refine AW.ret (hQ _ _ _ ?_ (AaJ ?_)).1
 ·simp [Try.f84]
 ·simp
theorem Aiu (k : Nat) (v0 : Int) (v1 : (List AaA)) (v2 : (List Int)) (v3 : Int) (v4 : Int) (v5 : Int) (v6 : Bool) (hF : AeF k v0 v1 v2 v3 v4 v5=some v6) :
 AbF Try.prog 59 [AV.agg [AV.int .i64 v0,Q0 v1,AV.lst false false (List.map (AV.int .i64) v2)],AV.int .i64 v3,AV.int .i64 v4,AV.int .i64 v5] [] (AV.bool v6) []:=by
 unfold AeF at hF;refine EN Try.func59 ?_;intro c0 w0 Q h0 hQ
 refine WK [(0,AV.agg [Iz v0,Q0 v1,Lz v2]),(1,Iz v3),(2,Iz v4),(3,Iz v5)] [] 0 (by simp) (by simp) ?_;refine SW trivial [] [none,none,none,none,none] [0,1,2,3] [(4,AV.ptr 0 0),(5,AV.ptr 1 0),(6,AV.ptr 2 0),(7,AV.ptr 3 0)] [] [(0,.cells [Iz v0,Q0 v1,Lz v2]),(1,.cells [Iz v3]),(2,.cells [Iz v4]),(3,.cells [Iz v5])] 4 ?_;refine SR [] [none,none,none,none,none] fun _ _ g r=>?_;try simp
 and_intros
 try any_goals first | omega | (simp [maxLen] <;> omega)
 obtain ⟨v7,h1,hF⟩:=AaN hF;refine AbA (AcA k _ _ _ _ _ h1) (by simp) [2,3,1] [] [] rfl (.cons (.same (by simp)) (.cons (.same (by simp)) .nil)) (by simp) (by decide) (by simp) (by simp) (.inl rfl) (by simp) (by simp) ?_;refine TL trivial g r [4,5,6,7] [(8,AV.bool v7)] [0,1,2,3] [] 4 ?_;simp only [Option.some.injEq] at hF;subst hF;refine AW.ret (hQ _ _ _ ?_ (AaJ ?_)).1
 ·simp [Try.f59]
 ·simp
theorem Acb (k : Nat) (v0 : Int) (v1 : (List AaA)) (v2 : (List Int)) (v3 : Int) (v4 : Int) (v5 : Int) (v6 : (List (List Int))) (v7 : Bool) (hF : AaQ k v0 v1 v2 v3 v4 v5 v6=some v7) :
 AbF Try.prog 29 [AV.agg [AV.int .i64 v0,Q0 v1,AV.lst false false (List.map (AV.int .i64) v2)],AV.int .i64 v3,AV.int .i64 v4,AV.int .i64 v5,AV.lst false false (List.map (sl (AV.int .i64)) v6)] [] (AV.bool v7) []:=by
 unfold AaQ at hF;refine EN Try.func29 ?_;intro c0 w0 Q h0 hQ
 refine WK [(0,AV.agg [Iz v0,Q0 v1,Lz v2]),(1,Iz v3),(2,Iz v4),(3,Iz v5),(4,AV.lst false false (List.map (sl (AV.int .i64)) v6))] [] 0 (by simp) (by simp) ?_;refine SW trivial [] [none,none] [0] [(5,AV.ptr 0 0)] [] [(0,.cells [Iz v0,Q0 v1,Lz v2])] 1 ?_;refine AW.seq fun K1643 hK1643=>?_;obtain ⟨v8,h1,hF⟩:=AaN hF;refine CL trivial [] [none,none,none,none,none,none] (Ada k _ _ _ _ _ _ _ h1) [] [(22,AV.bool (!v8))] [] [] 1 ?_;by_cases h2 : (!v8)=true
 ·replace hF:=AaZ h2 hF;have h2_:=h2;try simp at h2_
  refine CT (by simp [h2,h2_] <;> omega) ?_;refine SW (A2 h2 h2_) [] [none,none,none,none] [1,2,3,4,5,22] [(10,AV.bool ((v6.length : Int)==0))] [0] [] 1 ?_;simp only [Option.some.injEq] at hF;subst hF;refine AW.ret (hQ _ _ _ ?_ (AaJ ?_)).1
  ·simp [Try.f29,h2,h2_]
  ·simp [h2,h2_]
 ·replace hF:=Aaa h2 hF;have h2_:=h2;try simp at h2_
  refine CF (by simp [h2,h2_] <;> omega) ?_;refine AW.skip ?_;refine hK1643 _ _ _ ?_;obtain ⟨h35,h36⟩:=Al4 hF;refine AW.midF (α:=(List (Int×Bool))) (fun v9=>AaQ.J1 k v0 v1 v2 v3 v4 v5 v6 v9=some v7) (fun v9=>[(1,Iz v3),(2,Iz v4),(3,Iz v5),(4,AV.lst false false (List.map (sl (AV.int .i64)) v6)),(5,AV.ptr 0 0),(11,AV.map 1)]) (fun v9=>[(0,.cells [Iz v0,Q0 v1,Lz v2]),(1,.mp (mpA (AV.int .i64) AV.bool v9))]) 2 (fun K3278 hK3278=>?_) ?_
  ·refine AW.anyR Amn [] (by kernel_rfl) fun G3277 g=>?_;refine (show Ao3 _ _ _ _ 7 _ _ _ _ from ?_);refine Aa7 [0,1,3] (by kernel_rfl) ?_;simp [h2,h2_,AbU,Abv]
   refine ⟨?_,?_,?_⟩
   ·refine Aa7 [1,3] (by kernel_rfl) ?_;simp [h2,h2_,AbU,Abv]
    refine ⟨?_,?_⟩
    ·refine Aa7 [2,3] (by kernel_rfl) ?_;simp [h2,h2_,AbU,Abv]
     refine ⟨?_,?_⟩
     ·refine Aa7 [3] (by kernel_rfl) ?_;simp [h2,h2_,AbU,Abv]
      refine Aa7 [4] (by kernel_rfl) ?_;simp [h2,h2_,AbU,Abv]
      refine Aa7 [5] (by kernel_rfl) ?_;simp [h2,h2_,AbU,Abv]
      refine Aa7 [6] (by kernel_rfl) ?_;simp [h2,h2_,AbU,Abv]
      exact g _ _ _ (hK3278 _ _ _ (by first | (refine Can.join (AbE (AbE ([] : (List (Int×Bool))) v4 true) v5 true) h35 ?_ ?_ ?_ <;> (simp [h2,h2_]; done)) | (refine Can.join (AbE (AbE ([] : (List (Int×Bool))) v5 true) v4 true) h36 ?_ ?_ ?_ <;> (simp [h2,h2_]; done))))
     ·refine Aa7 [2,4] (by kernel_rfl) ?_;simp [h2,h2_,AbU,Abv]
      refine ⟨?_,?_⟩
      ·refine Aa7 [4] (by kernel_rfl) ?_;simp [h2,h2_,AbU,Abv]
       refine Aa7 [5] (by kernel_rfl) ?_;simp [h2,h2_,AbU,Abv]
       refine Aa7 [6] (by kernel_rfl) ?_;simp [h2,h2_,AbU,Abv]
       exact g _ _ _ (hK3278 _ _ _ (by first | (refine Can.join (AbE (AbE ([] : (List (Int×Bool))) v4 true) v5 true) h35 ?_ ?_ ?_ <;> (simp [h2,h2_]; done)) | (refine Can.join (AbE (AbE ([] : (List (Int×Bool))) v5 true) v4 true) h36 ?_ ?_ ?_ <;> (simp [h2,h2_]; done))))
      ·refine Aa7 [2] (by kernel_rfl) ?_;simp [h2,h2_,AbU,Abv]
       refine Aa7 [5] (by kernel_rfl) ?_;simp [h2,h2_,AbU,Abv]
       refine Aa7 [6] (by kernel_rfl) ?_;simp [h2,h2_,AbU,Abv]
       exact g _ _ _ (hK3278 _ _ _ (by first | (refine Can.join (AbE (AbE ([] : (List (Int×Bool))) v4 true) v5 true) h35 ?_ ?_ ?_ <;> (simp [h2,h2_]; done)) | (refine Can.join (AbE (AbE ([] : (List (Int×Bool))) v5 true) v4 true) h36 ?_ ?_ ?_ <;> (simp [h2,h2_]; done))))
    ·refine Aa7 [1,4] (by kernel_rfl) ?_;simp [h2,h2_,AbU,Abv]
     refine ⟨?_,?_⟩
     ·refine Aa7 [2,4] (by kernel_rfl) ?_;simp [h2,h2_,AbU,Abv]
      refine ⟨?_,?_⟩
      ·refine Aa7 [4] (by kernel_rfl) ?_;simp [h2,h2_,AbU,Abv]
       refine Aa7 [5] (by kernel_rfl) ?_;simp [h2,h2_,AbU,Abv]
       refine Aa7 [6] (by kernel_rfl) ?_;simp [h2,h2_,AbU,Abv]
       exact g _ _ _ (hK3278 _ _ _ (by first | (refine Can.join (AbE (AbE ([] : (List (Int×Bool))) v4 true) v5 true) h35 ?_ ?_ ?_ <;> (simp [h2,h2_]; done)) | (refine Can.join (AbE (AbE ([] : (List (Int×Bool))) v5 true) v4 true) h36 ?_ ?_ ?_ <;> (simp [h2,h2_]; done))))
      ·refine Aa7 [2] (by kernel_rfl) ?_;simp [h2,h2_,AbU,Abv]
       refine Aa7 [5] (by kernel_rfl) ?_;simp [h2,h2_,AbU,Abv]
       refine Aa7 [6] (by kernel_rfl) ?_;simp [h2,h2_,AbU,Abv]
       exact g _ _ _ (hK3278 _ _ _ (by first | (refine Can.join (AbE (AbE ([] : (List (Int×Bool))) v4 true) v5 true) h35 ?_ ?_ ?_ <;> (simp [h2,h2_]; done)) | (refine Can.join (AbE (AbE ([] : (List (Int×Bool))) v5 true) v4 true) h36 ?_ ?_ ?_ <;> (simp [h2,h2_]; done))))
     ·refine Aa7 [1] (by kernel_rfl) ?_;simp [h2,h2_,AbU,Abv]
      refine Aa7 [2] (by kernel_rfl) ?_;simp [h2,h2_,AbU,Abv]
      refine Aa7 [5] (by kernel_rfl) ?_;simp [h2,h2_,AbU,Abv]
      refine Aa7 [6] (by kernel_rfl) ?_;simp [h2,h2_,AbU,Abv]
      exact g _ _ _ (hK3278 _ _ _ (by first | (refine Can.join (AbE (AbE ([] : (List (Int×Bool))) v4 true) v5 true) h35 ?_ ?_ ?_ <;> (simp [h2,h2_]; done)) | (refine Can.join (AbE (AbE ([] : (List (Int×Bool))) v5 true) v4 true) h36 ?_ ?_ ?_ <;> (simp [h2,h2_]; done))))
   ·refine Aa7 [0,3] (by kernel_rfl) ?_;simp [h2,h2_,AbU,Abv]
    refine ⟨?_,?_⟩
    ·refine Aa7 [2,3] (by kernel_rfl) ?_;simp [h2,h2_,AbU,Abv]
     refine ⟨?_,?_⟩
     ·refine Aa7 [3] (by kernel_rfl) ?_;simp [h2,h2_,AbU,Abv]
      refine Aa7 [4] (by kernel_rfl) ?_;simp [h2,h2_,AbU,Abv]
      refine Aa7 [5] (by kernel_rfl) ?_;simp [h2,h2_,AbU,Abv]
      refine Aa7 [6] (by kernel_rfl) ?_;simp [h2,h2_,AbU,Abv]
      exact g _ _ _ (hK3278 _ _ _ (by first | (refine Can.join (AbE (AbE ([] : (List (Int×Bool))) v4 true) v5 true) h35 ?_ ?_ ?_ <;> (simp [h2,h2_]; done)) | (refine Can.join (AbE (AbE ([] : (List (Int×Bool))) v5 true) v4 true) h36 ?_ ?_ ?_ <;> (simp [h2,h2_]; done))))
     ·refine Aa7 [2,4] (by kernel_rfl) ?_;simp [h2,h2_,AbU,Abv]
      refine ⟨?_,?_⟩
      ·refine Aa7 [4] (by kernel_rfl) ?_;simp [h2,h2_,AbU,Abv]
       refine Aa7 [5] (by kernel_rfl) ?_;simp [h2,h2_,AbU,Abv]
       refine Aa7 [6] (by kernel_rfl) ?_;simp [h2,h2_,AbU,Abv]
       exact g _ _ _ (hK3278 _ _ _ (by first | (refine Can.join (AbE (AbE ([] : (List (Int×Bool))) v4 true) v5 true) h35 ?_ ?_ ?_ <;> (simp [h2,h2_]; done)) | (refine Can.join (AbE (AbE ([] : (List (Int×Bool))) v5 true) v4 true) h36 ?_ ?_ ?_ <;> (simp [h2,h2_]; done))))
      ·refine Aa7 [2] (by kernel_rfl) ?_;simp [h2,h2_,AbU,Abv]
       refine Aa7 [5] (by kernel_rfl) ?_;simp [h2,h2_,AbU,Abv]
       refine Aa7 [6] (by kernel_rfl) ?_;simp [h2,h2_,AbU,Abv]
       exact g _ _ _ (hK3278 _ _ _ (by first | (refine Can.join (AbE (AbE ([] : (List (Int×Bool))) v4 true) v5 true) h35 ?_ ?_ ?_ <;> (simp [h2,h2_]; done)) | (refine Can.join (AbE (AbE ([] : (List (Int×Bool))) v5 true) v4 true) h36 ?_ ?_ ?_ <;> (simp [h2,h2_]; done))))
    ·refine Aa7 [0] (by kernel_rfl) ?_;simp [h2,h2_,AbU,Abv]
     refine Aa7 [2,4] (by kernel_rfl) ?_;simp [h2,h2_,AbU,Abv]
     refine ⟨?_,?_⟩
     ·refine Aa7 [4] (by kernel_rfl) ?_;simp [h2,h2_,AbU,Abv]
      refine Aa7 [5] (by kernel_rfl) ?_;simp [h2,h2_,AbU,Abv]
      refine Aa7 [6] (by kernel_rfl) ?_;simp [h2,h2_,AbU,Abv]
      exact g _ _ _ (hK3278 _ _ _ (by first | (refine Can.join (AbE (AbE ([] : (List (Int×Bool))) v4 true) v5 true) h35 ?_ ?_ ?_ <;> (simp [h2,h2_]; done)) | (refine Can.join (AbE (AbE ([] : (List (Int×Bool))) v5 true) v4 true) h36 ?_ ?_ ?_ <;> (simp [h2,h2_]; done))))
     ·refine Aa7 [2] (by kernel_rfl) ?_;simp [h2,h2_,AbU,Abv]
      refine Aa7 [5] (by kernel_rfl) ?_;simp [h2,h2_,AbU,Abv]
      refine Aa7 [6] (by kernel_rfl) ?_;simp [h2,h2_,AbU,Abv]
      exact g _ _ _ (hK3278 _ _ _ (by first | (refine Can.join (AbE (AbE ([] : (List (Int×Bool))) v4 true) v5 true) h35 ?_ ?_ ?_ <;> (simp [h2,h2_]; done)) | (refine Can.join (AbE (AbE ([] : (List (Int×Bool))) v5 true) v4 true) h36 ?_ ?_ ?_ <;> (simp [h2,h2_]; done))))
   ·refine Aa7 [0,1] (by kernel_rfl) ?_;simp [h2,h2_,AbU,Abv]
    refine ⟨?_,?_⟩
    ·refine Aa7 [1,4] (by kernel_rfl) ?_;simp [h2,h2_,AbU,Abv]
     refine ⟨?_,?_⟩
     ·refine Aa7 [2,4] (by kernel_rfl) ?_;simp [h2,h2_,AbU,Abv]
      refine ⟨?_,?_⟩
      ·refine Aa7 [4] (by kernel_rfl) ?_;simp [h2,h2_,AbU,Abv]
       refine Aa7 [5] (by kernel_rfl) ?_;simp [h2,h2_,AbU,Abv]
       refine Aa7 [6] (by kernel_rfl) ?_;simp [h2,h2_,AbU,Abv]
       exact g _ _ _ (hK3278 _ _ _ (by first | (refine Can.join (AbE (AbE ([] : (List (Int×Bool))) v4 true) v5 true) h35 ?_ ?_ ?_ <;> (simp [h2,h2_]; done)) | (refine Can.join (AbE (AbE ([] : (List (Int×Bool))) v5 true) v4 true) h36 ?_ ?_ ?_ <;> (simp [h2,h2_]; done))))
      ·refine Aa7 [2] (by kernel_rfl) ?_;simp [h2,h2_,AbU,Abv]
       refine Aa7 [5] (by kernel_rfl) ?_;simp [h2,h2_,AbU,Abv]
       refine Aa7 [6] (by kernel_rfl) ?_;simp [h2,h2_,AbU,Abv]
       exact g _ _ _ (hK3278 _ _ _ (by first | (refine Can.join (AbE (AbE ([] : (List (Int×Bool))) v4 true) v5 true) h35 ?_ ?_ ?_ <;> (simp [h2,h2_]; done)) | (refine Can.join (AbE (AbE ([] : (List (Int×Bool))) v5 true) v4 true) h36 ?_ ?_ ?_ <;> (simp [h2,h2_]; done))))
     ·refine Aa7 [1] (by kernel_rfl) ?_;simp [h2,h2_,AbU,Abv]
      refine Aa7 [2] (by kernel_rfl) ?_;simp [h2,h2_,AbU,Abv]
      refine Aa7 [5] (by kernel_rfl) ?_;simp [h2,h2_,AbU,Abv]
      refine Aa7 [6] (by kernel_rfl) ?_;simp [h2,h2_,AbU,Abv]
      exact g _ _ _ (hK3278 _ _ _ (by first | (refine Can.join (AbE (AbE ([] : (List (Int×Bool))) v4 true) v5 true) h35 ?_ ?_ ?_ <;> (simp [h2,h2_]; done)) | (refine Can.join (AbE (AbE ([] : (List (Int×Bool))) v5 true) v4 true) h36 ?_ ?_ ?_ <;> (simp [h2,h2_]; done))))
    ·refine Aa7 [0] (by kernel_rfl) ?_;simp [h2,h2_,AbU,Abv]
     refine Aa7 [2,4] (by kernel_rfl) ?_;simp [h2,h2_,AbU,Abv]
     refine ⟨?_,?_⟩
     ·refine Aa7 [4] (by kernel_rfl) ?_;simp [h2,h2_,AbU,Abv]
      refine Aa7 [5] (by kernel_rfl) ?_;simp [h2,h2_,AbU,Abv]
      refine Aa7 [6] (by kernel_rfl) ?_;simp [h2,h2_,AbU,Abv]
      exact g _ _ _ (hK3278 _ _ _ (by first | (refine Can.join (AbE (AbE ([] : (List (Int×Bool))) v4 true) v5 true) h35 ?_ ?_ ?_ <;> (simp [h2,h2_]; done)) | (refine Can.join (AbE (AbE ([] : (List (Int×Bool))) v5 true) v4 true) h36 ?_ ?_ ?_ <;> (simp [h2,h2_]; done))))
     ·refine Aa7 [2] (by kernel_rfl) ?_;simp [h2,h2_,AbU,Abv]
      refine Aa7 [5] (by kernel_rfl) ?_;simp [h2,h2_,AbU,Abv]
      refine Aa7 [6] (by kernel_rfl) ?_;simp [h2,h2_,AbU,Abv]
      exact g _ _ _ (hK3278 _ _ _ (by first | (refine Can.join (AbE (AbE ([] : (List (Int×Bool))) v4 true) v5 true) h35 ?_ ?_ ?_ <;> (simp [h2,h2_]; done)) | (refine Can.join (AbE (AbE ([] : (List (Int×Bool))) v5 true) v4 true) h36 ?_ ?_ ?_ <;> (simp [h2,h2_]; done))))
  ·rintro v9 hF
   try dsimp only at hF
   unfold AaQ.J1 at hF;refine SW (A2 h2 h2_) [] [none] [] [(12,AV.bool false)] [] [] 2 ?_;refine AW.seq fun K2461 hK2461=>?_;refine SW (A2 h2 h2_) [] [none,none,none] [4] [(30,AV.lst false false (List.map (sl (AV.int .i64)) v6)),(31,Iz (v6.length : Int)),(32,Iz 0)] [] [] 2 ?_;refine AW.block ?_;refine AW.loopF (α:=(Bool×Int×(List (Int×Bool)))) (fun n (v10,v11,v12)=>AaQ.L2 k v0 v1 v2 v3 v4 v5 v6 n v10 v11 v12=some v7) (fun (v10,v11,v12)=>[(1,Iz v3),(2,Iz v4),(3,Iz v5),(5,AV.ptr 0 0),(11,AV.map 1),(12,AV.bool v10),(30,AV.lst false false (List.map (sl (AV.int .i64)) v6)),(31,Iz (v6.length : Int)),(32,Iz v11)]) (fun (v10,v11,v12)=>[(0,.cells [Iz v0,Q0 v1,Lz v2]),(1,.mp (mpA (AV.int .i64) AV.bool v12))]) 2 k ((false,0,v9)) hF (by simp [h2,h2_]) (by simp [h2,h2_]) (by simp) ?_;rintro (_|n2) ⟨v10,v11,v12⟩ hF K3069 hK3069
   ·try dsimp only at hF
    rw [AaQ.L2] at hF; cases hF
   try dsimp only at hF
   rw [AaQ.L2] at hF;refine SW (A2 h2 h2_) [] [none] [] [(33,AV.bool (decide (v11<(v6.length : Int))))] [] [] 2 ?_;refine AW.seq fun K3071 hK3071=>?_;by_cases h3 : v11<(v6.length : Int)
   ·replace hF:=AaZ h3 hF;have h3_:=h3;try simp at h3_
    have F1:=A4 h2 h2_ h3 h3_;refine CT (by simp [F1] <;> omega) ?_;refine AW.skip ?_;refine hK3071 _ _ _ ?_;refine AW.seq fun K3173 hK3173=>?_;refine AW.block ?_;refine SR [] [none,none,none] fun _ _ g r=>?_;obtain ⟨v13,h4,h5,h6,hF⟩:=Aad hF;have h6_:=Aas h6;try simp at h6_
    have h5_:=h5;try simp at h5_
    have F2:=A6 F1 h4 h5 h6 h6_ h5_;refine TL F2 g r [] [(14,Lz v13)] [] [] 2 ?_;refine SW F2 [] [none,none,none] [] [(15,Iz (v13.length : Int))] [] [] 2 ?_;refine AW.midF (α:=Unit) (fun _=>AaQ.J3 k v0 v1 v2 v3 v10 v11 v12 v13 (fun v10_ v11_ v12_=>AaQ.L2 k v0 v1 v2 v3 v4 v5 v6 n2 v10_ v11_ v12_)=some v7) (fun _=>[(1,Iz v3),(2,Iz v4),(3,Iz v5),(5,AV.ptr 0 0),(11,AV.map 1),(12,AV.bool v10),(14,Lz v13),(15,Iz (v13.length : Int)),(30,AV.lst false false (List.map (sl (AV.int .i64)) v6)),(31,Iz (v6.length : Int)),(32,Iz v11)]) (fun _=>[(0,.cells [Iz v0,Q0 v1,Lz v2]),(1,.mp (mpA (AV.int .i64) AV.bool v12))]) 2 (fun K3270 hK3270=>?_) ?_
    ·refine SR [] [none,none,none,some (40,false),some (40,false),some (40,false),some (40,false),some (40,false),none,none,some (47,false),some (47,false),some (47,false),some (47,false),some (47,false),some (47,false),some (47,false),none,none,some (56,false),some (56,false),some (56,false),some (59,true),some (56,false),none] fun _ _ g r=>?_;by_cases h24 : (v13.length : Int)<2
     ·replace hF:=AaZ h24 hF;have h24_:=h24;try simp at h24_
      have F3:=A3 F2 h24 h24_;refine TL F3 g r [] [(62,AV.bool true)] [] [] 2 ?_;refine CT (by simp [F3]) ?_;refine SW F3 [] [none] [1,2,3,5,11,12,14,15,30,31,32,62] [(10,AV.bool false)] [0,1] [] 2 ?_;simp only [Option.some.injEq] at hF;subst hF;refine AW.ret (hQ _ _ _ ?_ (AaJ ?_)).1
      ·simp [Try.f29,F3]
      ·simp [F3]
     ·replace hF:=Aaa h24 hF;have h24_:=h24;try simp at h24_
      obtain ⟨v22,h25,h26,h27,hF⟩:=Aad hF;have h27_:=Aas h27;try simp at h27_
      have h26_:=h26;try simp at h26_
      have h27z:=Aew h27;by_cases h28 : v22≠v4
      ·replace hF:=AaZ h28 hF;have h28_:=AbY h28;have h28__:=Abc h28;have F4:=A9 F2 h24 h24_ h25 h26 h27 h27_ h26_ (A4 h27z h28 h28_ h28__);refine TL F4 g r [] [(62,AV.bool true)] [] [] 2 ?_;refine CT (by simp [F4]) ?_;refine SW F4 [] [none] [1,2,3,5,11,12,14,15,30,31,32,62] [(10,AV.bool false)] [0,1] [] 2 ?_;simp only [Option.some.injEq] at hF;subst hF;refine AW.ret (hQ _ _ _ ?_ (AaJ ?_)).1
       ·simp [Try.f29,F4]
       ·simp [F4]
      ·replace hF:=Aaa h28 hF;have h28q : v22=v4:=Classical.not_not.1 h28;have h28_:=Abf h28q;have h28__:=Abe h28q;obtain ⟨v23,h29,h30,h31,hF⟩:=Aad hF;have h31_:=Aas h31;try simp at h31_
       have h30_:=h30;try simp at h30_
       by_cases h32 : v23≠v5
       ·replace hF:=AaZ h32 hF;have h32_:=AbY h32;have h32__:=Abc h32;have F5:=A9 F2 h24 h24_ h25 h26 h27 h27_ h26_ (A9 h27z h28_ h28__ h29 h30 h31 h31_ h30_ (A3 h32 h32_ h32__));refine TL F5 g r [] [(62,AV.bool true)] [] [] 2 ?_;refine CT (by simp [F5]) ?_;refine SW F5 [] [none] [1,2,3,5,11,12,14,15,30,31,32,62] [(10,AV.bool false)] [0,1] [] 2 ?_;simp only [Option.some.injEq] at hF;subst hF;refine AW.ret (hQ _ _ _ ?_ (AaJ ?_)).1
        ·simp [Try.f29,F5]
        ·simp [F5]
       ·replace hF:=Aaa h32 hF;have h32q : v23=v5:=Classical.not_not.1 h32;have h32_:=Abf h32q;have h32__:=Abe h32q;by_cases h33 : (v13.length : Int)=2
        ·replace hF:=AaZ h33 hF;have h33q : (v13.length : Int)=2:=h33;have h33_:=Abf h33q;have h33__:=Abe h33q;have F6:=A9 F2 h24 h24_ h25 h26 h27 h27_ h26_ (A9 h27z h28_ h28__ h29 h30 h31 h31_ h30_ (A4 h32_ h32__ h33_ h33__));refine TL F6 g r [] [(62,AV.bool v10)] [] [] 2 ?_;by_cases h34 : v10=true
         ·replace hF:=AaZ h34 hF;have h34_:=h34;try simp at h34_
          have F7:=A3 F6 h34 h34_;refine CT (by simp [F7] <;> omega) ?_;refine SW F7 [] [none] [1,2,3,5,11,12,14,15,30,31,32,62] [(10,AV.bool false)] [0,1] [] 2 ?_;simp only [Option.some.injEq] at hF;subst hF;refine AW.ret (hQ _ _ _ ?_ (AaJ ?_)).1
          ·simp [Try.f29,F7]
          ·simp [F7]
         ·replace hF:=Aaa h34 hF;have h34_:=h34;try simp at h34_
          have F8:=A3 F6 h34 h34_;refine CF (by simp [F8] <;> omega) ?_;refine AW.skip ?_;refine hK3270 _ _ _ ?_;exact JN (()) hF (by simp [F8]) (by simp [F8])
        ·replace hF:=Aaa h33 hF;have h33_:=AbY h33;have h33__:=Abc h33;have F9:=A9 F2 h24 h24_ h25 h26 h27 h27_ h26_ (A9 h27z h28_ h28__ h29 h30 h31 h31_ h30_ (A5 h32_ h32__ h33 h33_ h33__));refine TL F9 g r [] [(62,AV.bool false)] [] [] 2 ?_;refine CF (by simp [F9]) ?_;refine AW.skip ?_;refine hK3270 _ _ _ ?_;exact JN (()) hF (by simp [F9]) (by simp [F9])
    ·rintro ⟨⟩ hF
     try dsimp only at hF
     unfold AaQ.J3 at hF;refine AW.midF (α:=Bool) (fun v14=>AaQ.J4 k v0 v1 v2 v3 v11 v12 v13 (fun v10_ v11_ v12_=>AaQ.L2 k v0 v1 v2 v3 v4 v5 v6 n2 v10_ v11_ v12_) v14=some v7) (fun v14=>[(1,Iz v3),(2,Iz v4),(3,Iz v5),(5,AV.ptr 0 0),(11,AV.map 1),(12,AV.bool v14),(14,Lz v13),(15,Iz (v13.length : Int)),(30,AV.lst false false (List.map (sl (AV.int .i64)) v6)),(31,Iz (v6.length : Int)),(32,Iz v11)]) (fun v14=>[(0,.cells [Iz v0,Q0 v1,Lz v2]),(1,.mp (mpA (AV.int .i64) AV.bool v12))]) 2 (fun K3269 hK3269=>?_) ?_
     ·refine RG [] [none,none,some (64,false),some (64,false),none,none] fun _ _ g r=>?_;by_cases h23 : v10=true
      ·replace hF:=AaZ h23 hF;have h23_:=h23;try simp at h23_
       have F10:=A3 F2 h23 h23_;try simp [F10]
       and_intros <;> first | exact GK g | apply r | omega | (simp [maxLen,F10] <;> omega)
       refine hK3269 _ _ _ ?_;exact JN (true) hF (by simp [F10]) (by simp [F10])
      ·replace hF:=Aaa h23 hF;have h23_:=h23;try simp at h23_
       have F11:=A3 F2 h23 h23_;try simp [F11]
       and_intros <;> first | exact GK g | apply r | omega | (simp [maxLen,F11] <;> omega)
       refine hK3269 _ _ _ ?_;exact JN (((v13.length : Int)==2)) hF (by simp [F11]) (by simp [F11])
     ·rintro v14 hF
      try dsimp only at hF
      unfold AaQ.J4 at hF;refine SW F2 [] [none] [] [(16,Iz 1)] [] [] 2 ?_;refine AW.block ?_;refine AW.loopF (α:=(Int×(List (Int×Bool)))) (fun n (v15,v16)=>AaQ.L5 k v0 v1 v2 v3 v11 v13 v14 (fun v10_ v11_ v12_=>AaQ.L2 k v0 v1 v2 v3 v4 v5 v6 n2 v10_ v11_ v12_) n v15 v16=some v7) (fun (v15,v16)=>[(1,Iz v3),(2,Iz v4),(3,Iz v5),(5,AV.ptr 0 0),(11,AV.map 1),(12,AV.bool v14),(14,Lz v13),(15,Iz (v13.length : Int)),(16,Iz v15),(30,AV.lst false false (List.map (sl (AV.int .i64)) v6)),(31,Iz (v6.length : Int)),(32,Iz v11)]) (fun (v15,v16)=>[(0,.cells [Iz v0,Q0 v1,Lz v2]),(1,.mp (mpA (AV.int .i64) AV.bool v16))]) 2 k ((1,v12)) hF (by simp [F2]) (by simp [F2]) (by simp) ?_;rintro (_|n5) ⟨v15,v16⟩ hF K3246 hK3246
      ·try dsimp only at hF
       rw [AaQ.L5] at hF; cases hF
      try dsimp only at hF
      rw [AaQ.L5] at hF;refine AW.seq fun K3248 hK3248=>?_;refine SW F2 [] [none,none,none] [] [(70,AV.bool (decide (v15<(v13.length : Int))))] [] [] 2 ?_;by_cases h7 : v15<(v13.length : Int)
      ·replace hF:=AaZ h7 hF;have h7_:=h7;try simp at h7_
       have F12:=A3 F2 h7 h7_;refine CT (by simp [F12] <;> omega) ?_;refine AW.skip ?_;refine hK3248 _ _ _ ?_;refine AW.seq fun K3258 hK3258=>?_;refine AW.block ?_;refine AW.midF (α:=Unit) (fun _=>AaQ.J6 k v13 v15 v16 (fun v15_ v16_=>AaQ.L5 k v0 v1 v2 v3 v11 v13 v14 (fun v10_ v11_ v12_=>AaQ.L2 k v0 v1 v2 v3 v4 v5 v6 n2 v10_ v11_ v12_) n5 v15_ v16_)=some v7) (fun _=>[(1,Iz v3),(2,Iz v4),(3,Iz v5),(5,AV.ptr 0 0),(11,AV.map 1),(12,AV.bool v14),(14,Lz v13),(15,Iz (v13.length : Int)),(16,Iz v15),(30,AV.lst false false (List.map (sl (AV.int .i64)) v6)),(31,Iz (v6.length : Int)),(32,Iz v11)]) (fun _=>[(0,.cells [Iz v0,Q0 v1,Lz v2]),(1,.mp (mpA (AV.int .i64) AV.bool v16))]) 2 (fun K3264 hK3264=>?_) ?_
       ·refine SR [] [none,none,none,none,none,none,none,none,none,none,none,none,none,none,some (86,false),some (86,false),some (86,false),some (86,false),some (86,false),some (91,true),some (91,true),some (91,true),some (91,true),some (91,true),some (91,true),some (86,false),none] fun _ _ g r=>?_;obtain ⟨v18,h11,h12,h13,hF⟩:=Aad hF;have h13_:=Aas h13;try simp at h13_
        have h12_:=h12;try simp at h12_
        obtain ⟨v19,h14,h15,h16,hF⟩:=Aad hF;have h16_:=Aas h16;try simp at h16_
        have h15_:=h15;try simp at h15_
        have F13:=A9 F12 h11 h12 h13 h13_ h12_ h14 h15 (A3 h16 h16_ h15_);try simp [F13]
        and_intros
        try any_goals first | omega | (simp [maxLen,F13] <;> omega)
        obtain ⟨v20,h17,hF⟩:=AaN hF;refine AC (Aiu k _ _ _ _ _ _ _ h17) (.cons (.same (by simp [F13])) (.cons (.same (by simp [F13])) (.cons (.same (by simp [F13])) (.cons (.same (by simp [F13])) .nil)))) ?_;by_cases h18 : (!v20)=true
        ·replace hF:=AaZ h18 hF;have h18_:=h18;try simp at h18_
         have F14:=A3 F13 h18 h18_;refine TL F14 g r [] [(99,AV.bool true)] [] [] 2 ?_;refine CT (by simp [F14]) ?_;refine SW F14 [] [none] [1,2,3,5,11,12,14,15,16,30,31,32,99] [(10,AV.bool false)] [0,1] [] 2 ?_;simp only [Option.some.injEq] at hF;subst hF;refine AW.ret (hQ _ _ _ ?_ (AaJ ?_)).1
         ·simp [Try.f29,F14]
         ·simp [F14]
        ·replace hF:=Aaa h18 hF;have h18_:=h18;try simp at h18_
         by_cases h19 : v15<IntKind.wrap .i64 ((v13.length : Int)-1)
         ·replace hF:=AaZ h19 hF;have h19_:=h19;try simp at h19_
          rcases Ab0 hF with ⟨v21,h20,hF⟩ | ⟨h21,hF⟩
          ·have F15:=A6 F13 h18 h18_ h19 h19_ h20;refine TL F15 g r [] [(99,AV.bool v21)] [] [] 2 ?_;by_cases h22 : v21=true
           ·replace hF:=AaZ h22 hF;have h22_:=h22;try simp at h22_
            have F16:=A3 F15 h22 h22_;refine CT (by simp [F16] <;> omega) ?_;refine SW F16 [] [none] [1,2,3,5,11,12,14,15,16,30,31,32,99] [(10,AV.bool false)] [0,1] [] 2 ?_;simp only [Option.some.injEq] at hF;subst hF;refine AW.ret (hQ _ _ _ ?_ (AaJ ?_)).1
            ·simp [Try.f29,F16]
            ·simp [F16]
           ·replace hF:=Aaa h22 hF;have h22_:=h22;try simp at h22_
            have F17:=A3 F15 h22 h22_;refine CF (by simp [F17] <;> omega) ?_;refine AW.skip ?_;refine hK3264 _ _ _ ?_;exact JN (()) hF (by simp [F17]) (by simp [F17])
          ·have F18:=A6 F13 h18 h18_ h19 h19_ h21;refine TL F18 g r [] [(99,AV.bool false)] [] [] 2 ?_;refine CF (by simp [F18]) ?_;refine AW.skip ?_;refine hK3264 _ _ _ ?_;exact JN (()) hF (by simp [F18]) (by simp [F18])
         ·replace hF:=Aaa h19 hF;have h19_:=h19;try simp at h19_
          have F19:=A5 F13 h18 h18_ h19 h19_;refine TL F19 g r [] [(99,AV.bool false)] [] [] 2 ?_;refine CF (by simp [F19]) ?_;refine AW.skip ?_;refine hK3264 _ _ _ ?_;exact JN (()) hF (by simp [F19]) (by simp [F19])
       ·rintro ⟨⟩ hF
        try dsimp only at hF
        unfold AaQ.J6 at hF;refine RG [] [none,none,none,none,none,none] fun _ _ g r=>?_;obtain ⟨v17,h8,h9,h10,hF⟩:=Aad hF;have h10_:=Aas h10;try simp at h10_
        have h9_:=h9;try simp at h9_
        have F20:=A6 F12 h8 h9 h10 h10_ h9_;try simp [F20]
        and_intros <;> first | exact GK g | apply r | omega | (simp [maxLen,F20] <;> omega)
        refine hK3258 _ _ _ ?_;refine WK [(1,Iz v3),(2,Iz v4),(3,Iz v5),(5,AV.ptr 0 0),(11,AV.map 1),(12,AV.bool v14),(14,Lz v13),(15,Iz (v13.length : Int)),(16,Iz v15),(30,AV.lst false false (List.map (sl (AV.int .i64)) v6)),(31,Iz (v6.length : Int)),(32,Iz v11)] [(0,.cells [Iz v0,Q0 v1,Lz v2]),(1,.mp (mpA (AV.int .i64) AV.bool (AbE v16 v17 true)))] 2 (by simp [F20]) (by simp [F20]) ?_;refine RG [] [none,none,none] fun _ _ g r=>?_;try simp [F20]
        and_intros <;> first | exact GK g | apply r | omega | (simp [maxLen,F20] <;> omega)
        refine hK3246 _ _ _ ?_;exact NX (k':=n5) ((IntKind.wrap .i64 (v15+1),AbE v16 v17 true)) hF (by simp [F20]) (by simp [F20])
      ·replace hF:=Aaa h7 hF;have h7_:=h7;try simp at h7_
       have F21:=A3 F2 h7 h7_;refine CF (by simp [F21] <;> omega) ?_;refine AW.exit ?_;try simp
       refine hK3173 _ _ _ ?_;refine RG [] [none,none] fun _ _ g r=>?_;try simp [F21]
       and_intros <;> first | exact GK g | apply r | omega | (simp [maxLen,F21] <;> omega)
       refine hK3069 _ _ _ ?_;exact NX (k':=n2) ((v14,IntKind.wrap .i64 (v11+1),v16)) hF (by simp [F21]) (by simp [F21])
   ·replace hF:=Aaa h3 hF;have h3_:=h3;try simp at h3_
    have F22:=A4 h2 h2_ h3 h3_;refine CF (by simp [F22] <;> omega) ?_;refine AW.exit ?_;try simp
    refine hK2461 _ _ _ ?_;refine SW F22 [] [none] [1,2,3,5,11,12,30,31,32] [(10,AV.bool true)] [0,1] [] 2 ?_;simp only [Option.some.injEq] at hF;subst hF;refine AW.ret (hQ _ _ _ ?_ (AaJ ?_)).1
    ·simp [Try.f29,F22]
    ·simp [F22]
abbrev Adi  : Aau := .cells [Iz 4,AV.lst false true (List.map AaA.av ([(AaA.mk 0 1 1),(AaA.mk 0 2 2),(AaA.mk 1 3 1),(AaA.mk 2 3 2)] : List AaA)),AV.lst true true (List.map (AV.int .i64) ([] : List Int))]
abbrev AfU  : Aau := .cells [Iz 4,AV.slc 0 0 3 (([(AaA.mk 0 1 1),(AaA.mk 0 2 2),(AaA.mk 1 3 1),(AaA.mk 2 3 2)] : List AaA).length) true,AV.lst true true (List.map (AV.int .i64) ([] : List Int))]
theorem Adb (k : Nat) (v0 : Bool) (hF : Acp k=some v0) :
 AbF Try.prog 24 [] [] (AV.bool v0) []:=by
 unfold Acp at hF;refine EN Try.func24 ?_;intro c0 w0 Q h0 hQ
 refine WK [] [] 0 (by simp) (by simp) ?_;refine SW trivial [] [none] [] [] [] [] 0 ?_;refine SW trivial [8] [none,none,none,none,none,none,none,none] [] [(1,AV.ptr 1 0)] [] [(0,.cells (AaM (List.map AaA.av ([(AaA.mk 0 1 1),(AaA.mk 0 2 2),(AaA.mk 1 3 1),(AaA.mk 2 3 2)] : List AaA)))),(1,AfU )] 2 ?_;refine AW.frz 0 (o := .cells (AaM (List.map AaA.av ([(AaA.mk 0 1 1),(AaA.mk 0 2 2),(AaA.mk 1 3 1),(AaA.mk 2 3 2)] : List AaA)))) (by simp) rfl [] [(1,Adi )] trivial ⟨⟨by simp,(AfU ),by simp,(.mk (.cons (.same _) (.cons (.l (by simp) (by simp) (by simp) (by simp)) (.cons (.same _) .nil))))⟩,trivial⟩ ?_;refine WK [(1,AV.ptr 1 0)] [(1,Adi )] 2 (by simp) (by simp) ?_;refine SR [] [none,none,none] fun _ _ g r=>?_;try simp
 and_intros
 try any_goals first | omega | (simp [maxLen] <;> omega)
 obtain ⟨v1,h1,hF⟩:=AaN hF;refine AC (AiF k _ _ _ _ _ _ _ h1) (.cons (.agg (.cons (.same (by simp)) (.cons (Coe.fl (by simp)) (.cons (Coe.fl (by simp)) .nil)))) (.cons (.same (by simp)) (.cons (.same (by simp)) (.cons (.same (by simp)) .nil)))) ?_;refine TL trivial g r [] [(2,AV.slc 2 0 1 v1.length false)] [] [(2,.grow (List.map (sl (AV.int .i64)) v1))] 3 ?_;refine AW.frz 2 (o := .grow (List.map (sl (AV.int .i64)) v1)) (by simp) rfl [(2,AV.lst false false (List.map (sl (AV.int .i64)) v1))] [] ⟨(.l (by simp) (by simp) (by simp) (by simp)),trivial⟩ trivial ?_;refine WK [(1,AV.ptr 1 0),(2,AV.lst false false (List.map (sl (AV.int .i64)) v1))] [(1,Adi )] 3 (by simp) (by simp) ?_;refine SR [] [none,none,none] fun _ _ g r=>?_;try simp
 and_intros
 try any_goals first | omega | (simp [maxLen] <;> omega)
 obtain ⟨v2,h2,hF⟩:=AaN hF;refine AC (AiE k _ _ _ _ _ _ _ _ h2) (.cons (.agg (.cons (.same (by simp)) (.cons (Coe.fl (by simp)) (.cons (Coe.fl (by simp)) .nil)))) (.cons (.same (by simp)) (.cons (.same (by simp)) (.cons (.same (by simp)) (.cons (.same (by simp)) .nil))))) ?_;refine TL trivial g r [] [(3,AV.slc 3 0 1 v2.length false)] [] [(3,.grow (List.map (sl (AV.int .i64)) v2))] 4 ?_;refine AW.frz 3 (o := .grow (List.map (sl (AV.int .i64)) v2)) (by simp) rfl [(3,AV.lst false false (List.map (sl (AV.int .i64)) v2))] [] ⟨(.l (by simp) (by simp) (by simp) (by simp)),trivial⟩ trivial ?_;refine WK [(1,AV.ptr 1 0),(2,AV.lst false false (List.map (sl (AV.int .i64)) v1)),(3,AV.lst false false (List.map (sl (AV.int .i64)) v2))] [(1,Adi )] 4 (by simp) (by simp) ?_;refine SR [] [none,none,none,none,some (17,true),some (17,true),some (17,true),none,none,some (22,true),some (22,true),some (22,true),none,none,some (27,true),some (27,true),some (27,true),none,none,some (32,true),some (32,true),some (32,true),none,none,some (37,true),some (37,true),some (37,true),some (37,true),some (37,true),none,none,some (44,true),some (44,true),some (44,true),some (44,true),some (44,true),some (44,true),none,none,some (52,true),some (52,true),some (52,true),some (52,true),none,none] fun _ _ g r=>?_;try simp
 and_intros
 try any_goals first | omega | (simp [maxLen] <;> omega)
 obtain ⟨v3,h3,hF⟩:=AaN hF;refine AC (Aga k _ _ _ _ _ _ _ h3) (.cons (.agg (.cons (.same (by simp)) (.cons (Coe.fl (by simp)) (.cons (Coe.fl (by simp)) .nil)))) (.cons (.same (by simp)) (.cons (.same (by simp)) (.cons (.same (by simp)) .nil)))) ?_;by_cases h4 : v3=2
 ·replace hF:=AaZ h4 hF;have h4q : v3=2:=h4;have h4_:=Abf h4q;have h4__:=Abe h4q;have F1:=A3 h4_ h4__ h4q;try simp [F1]
  and_intros
  try any_goals first | omega | (simp [maxLen,F1] <;> omega)
  obtain ⟨v4,h5,hF⟩:=AaN hF;refine AC (Aga k _ _ _ _ _ _ _ h5) (.cons (.agg (.cons (.same (by simp [F1])) (.cons (Coe.fl (by simp [F1])) (.cons (Coe.fl (by simp [F1])) .nil)))) (.cons (.same (by simp [F1])) (.cons (.same (by simp [F1])) (.cons (.same (by simp [F1])) .nil)))) ?_;by_cases h6 : v4=1
  ·replace hF:=AaZ h6 hF;have h6q : v4=1:=h6;have h6_:=Abf h6q;have h6__:=Abe h6q;by_cases h7 : (v1.length : Int)=2
   ·replace hF:=AaZ h7 hF;have h7q : (v1.length : Int)=2:=h7;have h7_:=Abf h7q;have h7__:=Abe h7q;have F2:=A7 F1 h6_ h6__ h6q h7_ h7__ h7q;try simp [F2]
    and_intros
    try any_goals first | omega | (simp [maxLen,F2] <;> omega)
    obtain ⟨v5,h8,hF⟩:=AaN hF;refine AC (Acb k _ _ _ _ _ _ _ _ h8) (.cons (.agg (.cons (.same (by simp [F2])) (.cons (Coe.fl (by simp [F2])) (.cons (Coe.fl (by simp [F2])) .nil)))) (.cons (.same (by simp [F2])) (.cons (.same (by simp [F2])) (.cons (.same (by simp [F2])) (.cons (.same (by simp [F2])) .nil))))) ?_;by_cases h9 : v5=true
    ·replace hF:=AaZ h9 hF;have h9_:=h9;try simp at h9_
     by_cases h10 : (v2.length : Int)=2
     ·replace hF:=AaZ h10 hF;have h10q : (v2.length : Int)=2:=h10;have h10_:=Abf h10q;have h10__:=Abe h10q;obtain ⟨v6,h11,h12,h13,hF⟩:=Aad hF;have h13_:=Aas h13;try simp at h13_
      have h12_:=h12;try simp at h12_
      have h13z:=Aew h13;by_cases h14 : (v6.length : Int)=3
      ·replace hF:=AaZ h14 hF;have h14q : (v6.length : Int)=3:=h14;have h14_:=Abf h14q;have h14__:=Abe h14q;obtain ⟨v7,h15,h16,h17,hF⟩:=Aad hF;have h17_:=Aas h17;try simp at h17_
       have h16_:=h16;try simp at h16_
       by_cases h18 : v7=1
       ·replace hF:=AaZ h18 hF;have h18q : v7=1:=h18;have h18_:=Abf h18q;have h18__:=Abe h18q;have F3:=A9 F2 h9 h9_ h10_ h10__ h10q h11 h12 (A9 h13 h13_ h12_ h13z h14_ h14__ h14q h15 (A7 h16 h17 h17_ h16_ h18_ h18__ h18q));try simp [F3]
        and_intros
        try any_goals first | omega | (simp [maxLen,F3] <;> omega)
        obtain ⟨v8,h19,hF⟩:=AaN hF;refine AC (Acb k _ _ _ _ _ _ _ _ h19) (.cons (.agg (.cons (.same (by simp [F3])) (.cons (Coe.fl (by simp [F3])) (.cons (Coe.fl (by simp [F3])) .nil)))) (.cons (.same (by simp [F3])) (.cons (.same (by simp [F3])) (.cons (.same (by simp [F3])) (.cons (.same (by simp [F3])) .nil))))) ?_;refine TL F3 g r [1,2,3] [(0,AV.bool (!v8))] [1] [] 4 ?_;simp only [Option.some.injEq] at hF;subst hF;refine AW.ret (hQ _ _ _ ?_ (AaJ ?_)).1
        ·simp [Try.f24,F3]
        ·simp [F3]
       ·replace hF:=Aaa h18 hF;have h18_:=AbY h18;have h18__:=Abc h18;have F4:=A9 F2 h9 h9_ h10_ h10__ h10q h11 h12 (A9 h13 h13_ h12_ h13z h14_ h14__ h14q h15 (A7 h16 h17 h17_ h16_ h18 h18_ h18__));refine TL F4 g r [1,2,3] [(0,AV.bool false)] [1] [] 4 ?_;simp only [Option.some.injEq] at hF;subst hF;refine AW.ret (hQ _ _ _ ?_ (AaJ ?_)).1
        ·simp [Try.f24,F4]
        ·simp [F4]
      ·replace hF:=Aaa h14 hF;have h14_:=AbY h14;have h14__:=Abc h14;have F5:=A9 F2 h9 h9_ h10_ h10__ h10q h11 h12 (A7 h13 h13_ h12_ h13z h14 h14_ h14__);refine TL F5 g r [1,2,3] [(0,AV.bool false)] [1] [] 4 ?_;simp only [Option.some.injEq] at hF;subst hF;refine AW.ret (hQ _ _ _ ?_ (AaJ ?_)).1
       ·simp [Try.f24,F5]
       ·simp [F5]
     ·replace hF:=Aaa h10 hF;have h10_:=AbY h10;have h10__:=Abc h10;have F6:=A6 F2 h9 h9_ h10 h10_ h10__;refine TL F6 g r [1,2,3] [(0,AV.bool false)] [1] [] 4 ?_;simp only [Option.some.injEq] at hF;subst hF;refine AW.ret (hQ _ _ _ ?_ (AaJ ?_)).1
      ·simp [Try.f24,F6]
      ·simp [F6]
    ·replace hF:=Aaa h9 hF;have h9_:=h9;try simp at h9_
     have F7:=A3 F2 h9 h9_;refine TL F7 g r [1,2,3] [(0,AV.bool false)] [1] [] 4 ?_;simp only [Option.some.injEq] at hF;subst hF;refine AW.ret (hQ _ _ _ ?_ (AaJ ?_)).1
     ·simp [Try.f24,F7]
     ·simp [F7]
   ·replace hF:=Aaa h7 hF;have h7_:=AbY h7;have h7__:=Abc h7;have F8:=A7 F1 h6_ h6__ h6q h7 h7_ h7__;refine TL F8 g r [1,2,3] [(0,AV.bool false)] [1] [] 4 ?_;simp only [Option.some.injEq] at hF;subst hF;refine AW.ret (hQ _ _ _ ?_ (AaJ ?_)).1
    ·simp [Try.f24,F8]
    ·simp [F8]
  ·replace hF:=Aaa h6 hF;have h6_:=AbY h6;have h6__:=Abc h6;have F9:=A4 F1 h6 h6_ h6__;refine TL F9 g r [1,2,3] [(0,AV.bool false)] [1] [] 4 ?_;simp only [Option.some.injEq] at hF;subst hF;refine AW.ret (hQ _ _ _ ?_ (AaJ ?_)).1
   ·simp [Try.f24,F9]
   ·simp [F9]
 ·replace hF:=Aaa h4 hF;have h4_:=AbY h4;have h4__:=Abc h4;have F10:=A3 h4 h4_ h4__;refine TL F10 g r [1,2,3] [(0,AV.bool false)] [1] [] 4 ?_;simp only [Option.some.injEq] at hF;subst hF;refine AW.ret (hQ _ _ _ ?_ (AaJ ?_)).1
  ·simp [Try.f24,F10]
  ·simp [F10]
theorem Ajp (k : Nat) (v0 : (List Int)) (v1 : (List Int)) (v2 : Int) (hF : Af5 k v0=some (v1,v2)) :
 AbF Try.prog 11 [AV.lst false false (List.map (AV.int .i64) v0)] [] (AV.ptr 0 0) [some (.cells [AV.lst false false (List.map (AV.int .i64) v1),AV.int .i64 v2])]:=by
 unfold Af5 at hF;refine EN Try.func11 ?_;intro c0 w0 Q h0 hQ
 refine WK [(0,Lz v0)] [] 0 (by simp) (by simp) ?_;refine SW trivial [] [none] [] [] [] [] 0 ?_;refine SW trivial [] [none,none,none,none] [0] [(2,AV.ptr 0 0)] [] [(0,.cells [Lz v0,Iz 0])] 1 ?_;simp only [Option.some.injEq,Prod.mk.injEq] at hF;obtain ⟨e0,e1⟩:=hF;subst e0 e1;refine AW.ret (hQ _ _ _ ?_ (AaJ ?_)).1
 ·simp [Try.f11]
 ·simp
theorem Ahj (k : Nat) (v0 : Int) (v1 : Int) (v2 : Int) (hF : Acl k v0 v1=some v2) :
 AbF Try.prog 27 [AV.int .i64 v0,AV.int .i64 v1] [] (AV.int .i64 v2) []:=by
 unfold Acl at hF;refine EN Try.func27 ?_;intro c0 w0 Q h0 hQ
 refine WK [(0,Iz v0),(1,Iz v1)] [] 0 (by simp) (by simp) ?_;refine SW trivial [] [none] [] [] [] [] 0 ?_;refine AW.seq fun K17 hK17=>?_;refine SW trivial [] [none,none] [] [(6,AV.bool (decide (v1<1)))] [] [] 0 ?_;by_cases h1 : v1<1
 ·replace hF:=AaZ h1 hF;have h1_:=h1;try simp at h1_
  refine CT (by simp [h1,h1_] <;> omega) ?_;refine SW (A2 h1 h1_) [] [none] [0,1,6] [(4,Iz 0)] [] [] 0 ?_;simp only [Option.some.injEq] at hF;subst hF;refine AW.ret (hQ _ _ _ ?_ (AaJ ?_)).1
  ·simp [Try.f27,h1,h1_]
  ·simp [h1,h1_]
 ·replace hF:=Aaa h1 hF;have h1_:=h1;try simp at h1_
  refine CF (by simp [h1,h1_] <;> omega) ?_;refine AW.skip ?_;refine hK17 _ _ _ ?_;refine SR [] [none,none,none,none] fun _ _ g r=>?_;obtain ⟨h2,hF⟩:=AaR hF;have h2_:=h2;try simp at h2_
  have F1:=A4 h1 h1_ h2 h2_;refine TL F1 g r [0,6] [(0,Iz (Int.tmod v0 v1))] [] [] 0 ?_;refine AW.midF (α:=Int) (fun v3=>Acl.J1 k v3=some v2) (fun v3=>[(0,Iz v3)]) (fun v3=>[]) 0 (fun K24 hK24=>?_) ?_
  ·refine SW F1 [] [none,none] [] [(11,AV.bool (decide (Int.tmod v0 v1<0)))] [] [] 0 ?_;by_cases h3 : Int.tmod v0 v1<0
   ·replace hF:=AaZ h3 hF;have h3_:=h3;try simp at h3_
    have F2:=A3 F1 h3 h3_;refine CT (by simp [F2] <;> omega) ?_;refine RG [] [none,none,none,none] fun _ _ g r=>?_;try simp [F2]
    and_intros <;> first | exact GK g | apply r | omega | (simp [maxLen,F2] <;> omega)
    refine hK24 _ _ _ ?_;exact JN (IntKind.wrap .i64 (Int.tmod v0 v1+v1)) hF (by simp [F2]) (by simp [F2])
   ·replace hF:=Aaa h3 hF;have h3_:=h3;try simp at h3_
    have F3:=A3 F1 h3 h3_;refine CF (by simp [F3] <;> omega) ?_;refine AW.skip ?_;refine hK24 _ _ _ ?_;exact JN (Int.tmod v0 v1) hF (by simp [F3]) (by simp [F3])
  ·rintro v3 hF
   try dsimp only at hF
   unfold Acl.J1 at hF;refine SW F1 [] [none,none] [0] [(4,Iz v3)] [] [] 0 ?_;simp only [Option.some.injEq] at hF;subst hF;refine AW.ret (hQ _ _ _ ?_ (AaJ ?_)).1
   ·simp [Try.f27,F1]
   ·simp [F1]
theorem AbV (k : Nat) (v0 : (List Int)) (v1 : Int) (v2 : Int) (v3 : Int) (v4 : Int) (hF : AbI k v0 v1 v2=some (v3,v4)) :
 AbF Try.prog 23 [AV.ptr 0 0,AV.int .i64 v2] [.cells [AV.lst false false (List.map (AV.int .i64) v0),AV.int .i64 v1]] (AV.int .i64 v3) [some (.cells [AV.lst false false (List.map (AV.int .i64) v0),AV.int .i64 v4])]:=by
 unfold AbI at hF;refine EN Try.func23 ?_;intro c0 w0 Q h0 hQ
 refine WK [(0,AV.ptr 0 0),(1,Iz v2)] [(0,.cells [Lz v0,Iz v1])] 1 (by simp) (by simp) ?_;refine SW trivial [] [none] [] [] [] [] 1 ?_;refine AW.seq fun K12 hK12=>?_;refine SW trivial [] [none,none,none,none,none,none,none,none,none,none] [] [(14,AV.bool (decide ((v0.length : Int)≤v1)))] [] [] 1 ?_;by_cases h1 : (v0.length : Int)≤v1
 ·replace hF:=AaZ h1 hF;have h1_:=h1;try simp at h1_
  refine CT (by simp [h1,h1_] <;> omega) ?_;refine SW (A2 h1 h1_) [] [none] [0,1,14] [(4,Iz 0)] [] [] 1 ?_;simp only [Option.some.injEq,Prod.mk.injEq] at hF;obtain ⟨e0,e1⟩:=hF;subst e0 e1;refine AW.ret (hQ _ _ _ ?_ (AaJ ?_)).1
  ·simp [Try.f23,h1,h1_]
  ·simp [h1,h1_]
 ·replace hF:=Aaa h1 hF;have h1_:=h1;try simp at h1_
  refine CF (by simp [h1,h1_] <;> omega) ?_;refine AW.skip ?_;refine hK12 _ _ _ ?_;refine SW (A2 h1 h1_) [] [none,none,none,none,none,none,none,none] [14] [] [0] [(0,.cells [Lz v0,Iz (IntKind.wrap .i64 (v1+1))])] 1 ?_;refine SR [] [none,none,none,none,none,none,none,none,none,none,none,none,none,none] fun _ _ g r=>?_;obtain ⟨v5,h2,h3,h4,hF⟩:=Aad hF;have h4_:=Aas h4;try simp at h4_
  have h3_:=h3;try simp at h3_
  have F1:=A7 h1 h1_ h2 h3 h4 h4_ h3_;try simp [F1]
  and_intros
  try any_goals first | omega | (simp [maxLen,F1] <;> omega)
  obtain ⟨v6,h5,hF⟩:=AaN hF;refine AC (Ahj k _ _ _ h5) (.cons (.same (by simp [F1])) (.cons (.same (by simp [F1])) .nil)) ?_;refine TL F1 g r [0,1] [(4,Iz v6)] [] [] 1 ?_;simp only [Option.some.injEq,Prod.mk.injEq] at hF;obtain ⟨e0,e1⟩:=hF;subst e0 e1;refine AW.ret (hQ _ _ _ ?_ (AaJ ?_)).1
  ·simp [Try.f23,F1]
  ·simp [F1]
theorem Ag0 (k : Nat) (v0 : (List Int)) (v1 : Int) (v2 : Int) (v3 : Bool) (v4 : Int) (hF : Ade k v0 v1 v2=some (v3,v4)) :
 AbF Try.prog 39 [AV.ptr 0 0,AV.int .i64 v2] [.cells [AV.lst false false (List.map (AV.int .i64) v0),AV.int .i64 v1]] (AV.bool v3) [some (.cells [AV.lst false false (List.map (AV.int .i64) v0),AV.int .i64 v4])]:=by
 unfold Ade at hF;refine EN Try.func39 ?_;intro c0 w0 Q h0 hQ
 refine WK [(0,AV.ptr 0 0),(1,Iz v2)] [(0,.cells [Lz v0,Iz v1])] 1 (by simp) (by simp) ?_;refine SW trivial [] [none] [] [] [] [] 1 ?_;refine SR [] [none,none,none,none,none,none,none] fun _ _ g r=>?_;try simp
 and_intros
 try any_goals first | omega | (simp [maxLen] <;> omega)
 obtain ⟨v5,v6,h1,hF⟩:=AbX hF;refine AbA (AbV k _ _ _ _ _ h1) (by simp) [0] [] [0] rfl (.cons (.same (by simp)) (.cons (.same (by simp)) .nil)) (by simp) (by decide) (by simp) (by simp) (.inl rfl) (by simp) (by simp) ?_;refine TL trivial g r [0,1] [(4,AV.bool (v5==(IntKind.wrap .i64 (v2-1))))] [0] [(0,.cells [Lz v0,Iz v6])] 1 ?_;simp only [Option.some.injEq,Prod.mk.injEq] at hF;obtain ⟨e0,e1⟩:=hF;subst e0 e1;refine AW.ret (hQ _ _ _ ?_ (AaJ ?_)).1
 ·simp [Try.f39]
 ·simp
theorem Ajo (k : Nat) (v0 : (List Int)) (v1 : Int) (v2 : Bool) (hF : Abd k v0 v1=some v2) :
 AbF Try.prog 91 [AV.lst false false (List.map (AV.int .i64) v0),AV.int .i64 v1] [] (AV.bool v2) []:=by
 unfold Abd at hF;refine EN Try.func91 ?_;intro c0 w0 Q h0 hQ
 refine WK [(0,Lz v0),(1,Iz v1)] [] 0 (by simp) (by simp) ?_;refine SW trivial [] [none] [] [] [] [] 0 ?_;refine AW.seq fun K155 hK155=>?_;refine SW trivial [] [none] [] [(5,Iz 0)] [] [] 0 ?_;refine AW.block ?_;refine AW.loopF (α:=Int) (fun n v3=>Abd.L1 k v0 v1 n v3=some v2) (fun v3=>[(0,Lz v0),(1,Iz v1),(5,Iz v3)]) (fun v3=>[]) 0 k (0) hF (by simp) (by simp) (by simp) ?_;rintro (_|n1) v3 hF K192 hK192
 ·try dsimp only at hF
  rw [Abd.L1] at hF; cases hF
 try dsimp only at hF
 rw [Abd.L1] at hF;refine AW.seq fun K194 hK194=>?_;refine SW trivial [] [none,none,none,none] [] [(9,AV.bool (decide (v3<(v0.length : Int))))] [] [] 0 ?_;by_cases h1 : v3<(v0.length : Int)
 ·replace hF:=AaZ h1 hF;have h1_:=h1;try simp at h1_
  refine CT (by simp [h1,h1_] <;> omega) ?_;refine AW.skip ?_;refine hK194 _ _ _ ?_;refine AW.midF (α:=Unit) (fun _=>Abd.J2 k v3 (fun v3_=>Abd.L1 k v0 v1 n1 v3_)=some v2) (fun _=>[(0,Lz v0),(1,Iz v1),(5,Iz v3)]) (fun _=>[]) 0 (fun K201 hK201=>?_) ?_
  ·refine AW.block ?_;refine SR [] [none,none,none,none,none,none,some (17,false),some (17,false),some (17,false),some (17,false),some (17,false),some (17,false),none,none,some (25,false),some (25,false),some (25,false),some (28,true),some (28,true),some (28,true),some (28,true),some (28,true),some (28,true),some (28,true),some (28,true),some (28,true),some (28,true),some (25,false),none] fun _ _ g r=>?_;obtain ⟨v4,h2,h3,h4,hF⟩:=Aad hF;have h4_:=Aas h4;try simp at h4_
   have h3_:=h3;try simp at h3_
   by_cases h5 : v4<0
   ·replace hF:=AaZ h5 hF;have h5_:=h5;try simp at h5_
    have F1:=A9 h1 h1_ h2 h3 h4 h4_ h3_ h5 h5_;refine TL F1 g r [] [(40,AV.bool true)] [] [] 0 ?_;refine CT (by simp [F1]) ?_;refine SW F1 [] [none] [0,1,5,40] [(4,AV.bool false)] [] [] 0 ?_;simp only [Option.some.injEq] at hF;subst hF;refine AW.ret (hQ _ _ _ ?_ (AaJ ?_)).1
    ·simp [Try.f91,F1]
    ·simp [F1]
   ·replace hF:=Aaa h5 hF;have h5_:=h5;try simp at h5_
    by_cases h6 : v1≤v4
    ·replace hF:=AaZ h6 hF;have h6_:=h6;try simp at h6_
     have F2:=A9 h1 h1_ h2 h3 h4 h4_ h3_ h5 (A3 h5_ h6 h6_);refine TL F2 g r [] [(40,AV.bool true)] [] [] 0 ?_;refine CT (by simp [F2]) ?_;refine SW F2 [] [none] [0,1,5,40] [(4,AV.bool false)] [] [] 0 ?_;simp only [Option.some.injEq] at hF;subst hF;refine AW.ret (hQ _ _ _ ?_ (AaJ ?_)).1
     ·simp [Try.f91,F2]
     ·simp [F2]
    ·replace hF:=Aaa h6 hF;have h6_:=h6;try simp at h6_
     by_cases h7 : 0<v3
     ·replace hF:=AaZ h7 hF;have h7_:=h7;try simp at h7_
      obtain ⟨v5,h8,h9,h10,hF⟩:=Aad hF;have h10_:=Aas h10;try simp at h10_
      have h9_:=h9;try simp at h9_
      have F3:=A9 h1 h1_ h2 h3 h4 h4_ h3_ h5 (A9 h5_ h6 h6_ h7 h7_ h8 h9 h10 (A2 h10_ h9_));refine TL F3 g r [] [(40,AV.bool (decide (v4≤v5)))] [] [] 0 ?_;by_cases h11 : v4≤v5
      ·replace hF:=AaZ h11 hF;have h11_:=h11;try simp at h11_
       have F4:=A3 F3 h11 h11_;refine CT (by simp [F4] <;> omega) ?_;refine SW F4 [] [none] [0,1,5,40] [(4,AV.bool false)] [] [] 0 ?_;simp only [Option.some.injEq] at hF;subst hF;refine AW.ret (hQ _ _ _ ?_ (AaJ ?_)).1
       ·simp [Try.f91,F4]
       ·simp [F4]
      ·replace hF:=Aaa h11 hF;have h11_:=h11;try simp at h11_
       have F5:=A3 F3 h11 h11_;refine CF (by simp [F5] <;> omega) ?_;refine AW.skip ?_;refine hK201 _ _ _ ?_;exact JN (()) hF (by simp [F5]) (by simp [F5])
     ·replace hF:=Aaa h7 hF;have h7_:=h7;try simp at h7_
      have F6:=A9 h1 h1_ h2 h3 h4 h4_ h3_ h5 (A5 h5_ h6 h6_ h7 h7_);refine TL F6 g r [] [(40,AV.bool false)] [] [] 0 ?_;refine CF (by simp [F6]) ?_;refine AW.skip ?_;refine hK201 _ _ _ ?_;exact JN (()) hF (by simp [F6]) (by simp [F6])
  ·rintro ⟨⟩ hF
   try dsimp only at hF
   unfold Abd.J2 at hF;refine RG [] [none,none,none] fun _ _ g r=>?_;try simp [h1,h1_]
   and_intros <;> first | exact GK g | apply r | omega | (simp [h1,h1_,maxLen] <;> omega)
   refine hK192 _ _ _ ?_;exact NX (k':=n1) (IntKind.wrap .i64 (v3+1)) hF (by simp [h1,h1_]) (by simp [h1,h1_])
 ·replace hF:=Aaa h1 hF;have h1_:=h1;try simp at h1_
  refine CF (by simp [h1,h1_] <;> omega) ?_;refine AW.exit ?_;try simp
  refine hK155 _ _ _ ?_;refine SW (A2 h1 h1_) [] [none] [0,1,5] [(4,AV.bool true)] [] [] 0 ?_;simp only [Option.some.injEq] at hF;subst hF;refine AW.ret (hQ _ _ _ ?_ (AaJ ?_)).1
  ·simp [Try.f91,h1,h1_]
  ·simp [h1,h1_]
theorem Abj (k : Nat) (v0 : (List Int)) (v1 : Int) (v2 : Bool) (hF : AbK k v0 v1=some v2) :
 AbF Try.prog 20 [AV.lst false false (List.map (AV.int .i64) v0),AV.int .i64 v1] [] (AV.bool v2) []:=by
 unfold AbK at hF;refine EN Try.func20 ?_;intro c0 w0 Q h0 hQ
 refine WK [(0,Lz v0),(1,Iz v1)] [] 0 (by simp) (by simp) ?_;refine SW trivial [] [none] [] [] [] [] 0 ?_;refine AW.seq fun K119 hK119=>?_;refine SW trivial [] [none] [] [(5,Iz 0)] [] [] 0 ?_;refine AW.block ?_;refine AW.loopF (α:=Int) (fun n v3=>AbK.L1 k v0 v1 n v3=some v2) (fun v3=>[(0,Lz v0),(1,Iz v1),(5,Iz v3)]) (fun v3=>[]) 0 k (0) hF (by simp) (by simp) (by simp) ?_;rintro (_|n1) v3 hF K148 hK148
 ·try dsimp only at hF
  rw [AbK.L1] at hF; cases hF
 try dsimp only at hF
 rw [AbK.L1] at hF;refine AW.seq fun K150 hK150=>?_;refine SW trivial [] [none,none,none,none] [] [(9,AV.bool (decide (v3<(v0.length : Int))))] [] [] 0 ?_;by_cases h1 : v3<(v0.length : Int)
 ·replace hF:=AaZ h1 hF;have h1_:=h1;try simp at h1_
  refine CT (by simp [h1,h1_] <;> omega) ?_;refine AW.skip ?_;refine hK150 _ _ _ ?_;refine AW.seq fun K154 hK154=>?_;refine AW.block ?_;refine SR [] [none,none,none,none,none,none] fun _ _ g r=>?_;obtain ⟨v4,h2,h3,h4,hF⟩:=Aad hF;have h4_:=Aas h4;try simp at h4_
  have h3_:=h3;try simp at h3_
  have F1:=A7 h1 h1_ h2 h3 h4 h4_ h3_;refine TL F1 g r [] [(17,AV.bool (v4==v1))] [] [] 0 ?_;by_cases h5 : v4=v1
  ·replace hF:=AaZ h5 hF;have h5q : v4=v1:=h5;have h5_:=Abf h5q;have h5__:=Abe h5q;have F2:=A3 F1 h5_ h5__;refine CT (by simp [F2] <;> omega) ?_;refine SW F2 [] [none] [0,1,5,17] [(4,AV.bool true)] [] [] 0 ?_;simp only [Option.some.injEq] at hF;subst hF;refine AW.ret (hQ _ _ _ ?_ (AaJ ?_)).1
   ·simp [Try.f20,F2]
   ·simp [F2]
  ·replace hF:=Aaa h5 hF;have h5_:=AbY h5;have h5__:=Abc h5;have F3:=A4 F1 h5 h5_ h5__;refine CF (by simp [F3] <;> omega) ?_;refine AW.skip ?_;refine hK154 _ _ _ ?_;refine RG [] [none,none,none] fun _ _ g r=>?_;try simp [F3]
   and_intros <;> first | exact GK g | apply r | omega | (simp [maxLen,F3] <;> omega)
   refine hK148 _ _ _ ?_;exact NX (k':=n1) (IntKind.wrap .i64 (v3+1)) hF (by simp [F3]) (by simp [F3])
 ·replace hF:=Aaa h1 hF;have h1_:=h1;try simp at h1_
  refine CF (by simp [h1,h1_] <;> omega) ?_;refine AW.exit ?_;try simp
  refine hK119 _ _ _ ?_;refine SW (A2 h1 h1_) [] [none] [0,1,5] [(4,AV.bool false)] [] [] 0 ?_;simp only [Option.some.injEq] at hF;subst hF;refine AW.ret (hQ _ _ _ ?_ (AaJ ?_)).1
  ·simp [Try.f20,h1,h1_]
  ·simp [h1,h1_]
theorem AfO (k : Nat) (v0 : Int) (v1 : Int) (v2 : Int) (v3 : Int) (v4 : Int) (v5 : Int) (v6 : Bool) (hF : Acv k v0 v1 v2 v3 v4 v5=some v6) :
 AbF Try.prog 92 [AV.agg [AV.int .i64 v0,AV.int .i64 v1,AV.int .i64 v2],AV.agg [AV.int .i64 v3,AV.int .i64 v4,AV.int .i64 v5]] [] (AV.bool v6) []:=by
 unfold Acv at hF;refine EN Try.func92 ?_;intro c0 w0 Q h0 hQ
 refine WK [(0,AV.agg [Iz v0,Iz v1,Iz v2]),(1,AV.agg [Iz v3,Iz v4,Iz v5])] [] 0 (by simp) (by simp) ?_;refine SW trivial [] [none,none,none] [0,1] [(2,AV.ptr 0 0),(3,AV.ptr 1 0)] [] [(0,.cells [Iz v0,Iz v1,Iz v2]),(1,.cells [Iz v3,Iz v4,Iz v5])] 2 ?_;refine SR [] [none,none,none,none,none,none,some (10,false),some (10,false),some (10,false),some (10,false),some (10,false),some (10,false),some (16,true),some (16,true),some (16,true),some (16,true),some (16,true),some (10,false),none,none] fun _ _ g r=>?_;by_cases h1 : v0<v3
 ·replace hF:=AaZ h1 hF;have h1_:=h1;try simp at h1_
  refine TL (A2 h1 h1_) g r [2,3] [(4,AV.bool true)] [0,1] [] 2 ?_;simp only [Option.some.injEq] at hF;subst hF;refine AW.ret (hQ _ _ _ ?_ (AaJ ?_)).1
  ·simp [Try.f92,h1,h1_]
  ·simp [h1,h1_]
 ·replace hF:=Aaa h1 hF;have h1_:=h1;try simp at h1_
  by_cases h2 : v0=v3
  ·replace hF:=AaZ h2 hF;have h2q : v0=v3:=h2;have h2_:=Abf h2q;have h2__:=Abe h2q;have F1:=A4 h1 h1_ h2_ h2__;refine TL F1 g r [2,3] [(4,AV.bool (decide (v1<v4)))] [0,1] [] 2 ?_;simp only [Option.some.injEq] at hF;subst hF;refine AW.ret (hQ _ _ _ ?_ (AaJ ?_)).1
   ·simp [Try.f92,F1]
   ·simp [F1]
  ·replace hF:=Aaa h2 hF;have h2_:=AbY h2;have h2__:=Abc h2;have F2:=A5 h1 h1_ h2 h2_ h2__;refine TL F2 g r [2,3] [(4,AV.bool false)] [0,1] [] 2 ?_;simp only [Option.some.injEq] at hF;subst hF;refine AW.ret (hQ _ _ _ ?_ (AaJ ?_)).1
   ·simp [Try.f92,F2]
   ·simp [F2]
theorem AiD (k : Nat) (v0 : Int) (v1 : (List AaA)) (v2 : (List Int)) (v3 : Int) (hF : Aa1 k v0 v1 v2=some v3) :
 AbF Try.prog 63 [AV.agg [AV.int .i64 v0,Q0 v1,AV.lst false false (List.map (AV.int .i64) v2)]] [] (AV.int .i64 v3) []:=by
 unfold Aa1 at hF;refine EN Try.func63 ?_;intro c0 w0 Q h0 hQ
 refine WK [(0,AV.agg [Iz v0,Q0 v1,Lz v2])] [] 0 (by simp) (by simp) ?_;refine SW trivial [] [none,none] [0] [(1,AV.ptr 0 0)] [] [(0,.cells [Iz v0,Q0 v1,Lz v2])] 1 ?_;refine AW.seq fun K401 hK401=>?_;refine SR [] [none,none,none,none,some (8,false),some (8,false),some (8,false),none,none,some (13,false),some (13,false),some (13,false),some (13,false),none,none,some (19,false),some (19,false),some (19,false),some (19,false),some (19,false),some (19,false),none] fun _ _ g r=>?_;by_cases h1 : v0<0
 ·replace hF:=AaZ h1 hF;have h1_:=h1;try simp at h1_
  refine TL (A2 h1 h1_) g r [] [(26,AV.bool true)] [] [] 1 ?_;refine CT (by simp [h1,h1_]) ?_;refine SW (A2 h1 h1_) [] [none] [1,26] [(2,Iz 14)] [0] [] 1 ?_;simp only [Option.some.injEq] at hF;subst hF;refine AW.ret (hQ _ _ _ ?_ (AaJ ?_)).1
  ·simp [Try.f63,h1,h1_]
  ·simp [h1,h1_]
 ·replace hF:=Aaa h1 hF;have h1_:=h1;try simp at h1_
  by_cases h2 : 64<v0
  ·replace hF:=AaZ h2 hF;have h2_:=h2;try simp at h2_
   have F1:=A4 h1 h1_ h2 h2_;refine TL F1 g r [] [(26,AV.bool true)] [] [] 1 ?_;refine CT (by simp [F1]) ?_;refine SW F1 [] [none] [1,26] [(2,Iz 14)] [0] [] 1 ?_;simp only [Option.some.injEq] at hF;subst hF;refine AW.ret (hQ _ _ _ ?_ (AaJ ?_)).1
   ·simp [Try.f63,F1]
   ·simp [F1]
  ·replace hF:=Aaa h2 hF;have h2_:=h2;try simp at h2_
   by_cases h3 : 500<(v1.length : Int)
   ·replace hF:=AaZ h3 hF;have h3_:=h3;try simp at h3_
    have F2:=A6 h1 h1_ h2 h2_ h3 h3_;refine TL F2 g r [] [(26,AV.bool true)] [] [] 1 ?_;refine CT (by simp [F2]) ?_;refine SW F2 [] [none] [1,26] [(2,Iz 14)] [0] [] 1 ?_;simp only [Option.some.injEq] at hF;subst hF;refine AW.ret (hQ _ _ _ ?_ (AaJ ?_)).1
    ·simp [Try.f63,F2]
    ·simp [F2]
   ·replace hF:=Aaa h3 hF;have h3_:=h3;try simp at h3_
    have F3:=A6 h1 h1_ h2 h2_ h3 h3_;try simp [F3]
    and_intros
    try any_goals first | omega | (simp [maxLen,F3] <;> omega)
    obtain ⟨v4,h4,hF⟩:=AaN hF;refine AC (Ajo k _ _ _ h4) (.cons (.same (by simp [F3])) (.cons (.same (by simp [F3])) .nil)) ?_;refine TL F3 g r [] [(26,AV.bool (!v4))] [] [] 1 ?_;by_cases h5 : (!v4)=true
    ·replace hF:=AaZ h5 hF;have h5_:=h5;try simp at h5_
     have F4:=A3 F3 h5 h5_;refine CT (by simp [F4] <;> omega) ?_;refine SW F4 [] [none] [1,26] [(2,Iz 14)] [0] [] 1 ?_;simp only [Option.some.injEq] at hF;subst hF;refine AW.ret (hQ _ _ _ ?_ (AaJ ?_)).1
     ·simp [Try.f63,F4]
     ·simp [F4]
    ·replace hF:=Aaa h5 hF;have h5_:=h5;try simp at h5_
     have F5:=A3 F3 h5 h5_;refine CF (by simp [F5] <;> omega) ?_;refine AW.skip ?_;refine hK401 _ _ _ ?_;refine AW.seq fun K597 hK597=>?_;refine SW F5 [] [none] [26] [(3,Iz 0)] [] [] 1 ?_;refine AW.block ?_;refine AW.loopF (α:=Int) (fun n v5=>Aa1.L1 k v0 v1 v2 n v5=some v3) (fun v5=>[(1,AV.ptr 0 0),(3,Iz v5)]) (fun v5=>[(0,.cells [Iz v0,Q0 v1,Lz v2])]) 1 k (0) hF (by simp [F5]) (by simp [F5]) (by simp) ?_;rintro (_|n1) v5 hF K740 hK740
     ·try dsimp only at hF
      rw [Aa1.L1] at hF; cases hF
     try dsimp only at hF
     rw [Aa1.L1] at hF;refine AW.seq fun K742 hK742=>?_;refine SW F5 [] [none,none,none,none,none] [] [(31,AV.bool (decide (v5<(v1.length : Int))))] [] [] 1 ?_;by_cases h6 : v5<(v1.length : Int)
     ·replace hF:=AaZ h6 hF;have h6_:=h6;try simp at h6_
      have F6:=A3 F5 h6 h6_;refine CT (by simp [F6] <;> omega) ?_;refine AW.skip ?_;refine hK742 _ _ _ ?_;refine AW.seq fun K765 hK765=>?_;refine AW.block ?_;refine SR [] [none,none,none,none,none,none,none] fun _ _ g r=>?_;obtain ⟨v6,h7,h8,h9,hF⟩:=Aad hF;have h9_:=Aas h9;try simp at h9_
      have h8_:=h8;try simp at h8_
      have F7:=A6 F6 h7 h8 h9 h9_ h8_;refine TL F7 g r [] [(4,AV.ptr 1 0)] [] [(1,.cells [Iz v6.From,Iz v6.To,Iz v6.Level])] 2 ?_;refine AW.seq fun K775 hK775=>?_;refine SR [] [none,none,none,none,some (42,false),some (42,false),some (42,false),some (42,false),some (42,false),none,none,some (49,false),some (49,false),some (49,false),none,none,some (54,false),some (54,false),some (54,false),some (54,false),some (54,false),none,none,some (61,false),some (61,false),some (61,false),some (61,false),some (61,false),none,none,some (68,false),some (68,false),some (68,false),none,none,some (73,false),some (73,false),some (73,false),none] fun _ _ g r=>?_;by_cases h10 : v6.From<0
      ·replace hF:=AaZ h10 hF;have h10_:=h10;try simp at h10_
       have F8:=A3 F7 h10 h10_;refine TL F8 g r [] [(77,AV.bool true)] [] [] 2 ?_;refine CT (by simp [F8]) ?_;refine SW F8 [] [none] [1,3,4,77] [(2,Iz 14)] [0,1] [] 2 ?_;simp only [Option.some.injEq] at hF;subst hF;refine AW.ret (hQ _ _ _ ?_ (AaJ ?_)).1
       ·simp [Try.f63,F8]
       ·simp [F8]
      ·replace hF:=Aaa h10 hF;have h10_:=h10;try simp at h10_
       by_cases h11 : v0≤v6.From
       ·replace hF:=AaZ h11 hF;have h11_:=h11;try simp at h11_
        have F9:=A5 F7 h10 h10_ h11 h11_;refine TL F9 g r [] [(77,AV.bool true)] [] [] 2 ?_;refine CT (by simp [F9]) ?_;refine SW F9 [] [none] [1,3,4,77] [(2,Iz 14)] [0,1] [] 2 ?_;simp only [Option.some.injEq] at hF;subst hF;refine AW.ret (hQ _ _ _ ?_ (AaJ ?_)).1
        ·simp [Try.f63,F9]
        ·simp [F9]
       ·replace hF:=Aaa h11 hF;have h11_:=h11;try simp at h11_
        by_cases h12 : v6.To<0
        ·replace hF:=AaZ h12 hF;have h12_:=h12;try simp at h12_
         have F10:=A7 F7 h10 h10_ h11 h11_ h12 h12_;refine TL F10 g r [] [(77,AV.bool true)] [] [] 2 ?_;refine CT (by simp [F10]) ?_;refine SW F10 [] [none] [1,3,4,77] [(2,Iz 14)] [0,1] [] 2 ?_;simp only [Option.some.injEq] at hF;subst hF;refine AW.ret (hQ _ _ _ ?_ (AaJ ?_)).1
         ·simp [Try.f63,F10]
         ·simp [F10]
        ·replace hF:=Aaa h12 hF;have h12_:=h12;try simp at h12_
         by_cases h13 : v0≤v6.To
         ·replace hF:=AaZ h13 hF;have h13_:=h13;try simp at h13_
          have F11:=A9 F7 h10 h10_ h11 h11_ h12 h12_ h13 h13_;refine TL F11 g r [] [(77,AV.bool true)] [] [] 2 ?_;refine CT (by simp [F11]) ?_;refine SW F11 [] [none] [1,3,4,77] [(2,Iz 14)] [0,1] [] 2 ?_;simp only [Option.some.injEq] at hF;subst hF;refine AW.ret (hQ _ _ _ ?_ (AaJ ?_)).1
          ·simp [Try.f63,F11]
          ·simp [F11]
         ·replace hF:=Aaa h13 hF;have h13_:=h13;try simp at h13_
          by_cases h14 : v6.From=v6.To
          ·replace hF:=AaZ h14 hF;have h14q : v6.From=v6.To:=h14;have h14_:=Abf h14q;have h14__:=Abe h14q;have F12:=A9 F7 h10 h10_ h11 h11_ h12 h12_ h13 (A3 h13_ h14_ h14__);refine TL F12 g r [] [(77,AV.bool true)] [] [] 2 ?_;refine CT (by simp [F12]) ?_;refine SW F12 [] [none] [1,3,4,77] [(2,Iz 14)] [0,1] [] 2 ?_;simp only [Option.some.injEq] at hF;subst hF;refine AW.ret (hQ _ _ _ ?_ (AaJ ?_)).1
           ·simp [Try.f63,F12]
           ·simp [F12]
          ·replace hF:=Aaa h14 hF;have h14_:=AbY h14;have h14__:=Abc h14;by_cases h15 : v6.Level<1
           ·replace hF:=AaZ h15 hF;have h15_:=h15;try simp at h15_
            have F13:=A9 F7 h10 h10_ h11 h11_ h12 h12_ h13 (A6 h13_ h14 h14_ h14__ h15 h15_);refine TL F13 g r [] [(77,AV.bool true)] [] [] 2 ?_;refine CT (by simp [F13]) ?_;refine SW F13 [] [none] [1,3,4,77] [(2,Iz 14)] [0,1] [] 2 ?_;simp only [Option.some.injEq] at hF;subst hF;refine AW.ret (hQ _ _ _ ?_ (AaJ ?_)).1
            ·simp [Try.f63,F13]
            ·simp [F13]
           ·replace hF:=Aaa h15 hF;have h15_:=h15;try simp at h15_
            have F14:=A9 F7 h10 h10_ h11 h11_ h12 h12_ h13 (A6 h13_ h14 h14_ h14__ h15 h15_);refine TL F14 g r [] [(77,AV.bool (decide (3<v6.Level)))] [] [] 2 ?_;by_cases h16 : 3<v6.Level
            ·replace hF:=AaZ h16 hF;have h16_:=h16;try simp at h16_
             have F15:=A3 F14 h16 h16_;refine CT (by simp [F15] <;> omega) ?_;refine SW F15 [] [none] [1,3,4,77] [(2,Iz 14)] [0,1] [] 2 ?_;simp only [Option.some.injEq] at hF;subst hF;refine AW.ret (hQ _ _ _ ?_ (AaJ ?_)).1
             ·simp [Try.f63,F15]
             ·simp [F15]
            ·replace hF:=Aaa h16 hF;have h16_:=h16;try simp at h16_
             have F16:=A3 F14 h16 h16_;refine CF (by simp [F16] <;> omega) ?_;refine AW.skip ?_;refine hK775 _ _ _ ?_;refine AW.midF (α:=Bool) (fun v7=>Aa1.J2 k v5 (fun v5_=>Aa1.L1 k v0 v1 v2 n1 v5_) v7=some v3) (fun v7=>[(1,AV.ptr 0 0),(3,Iz v5),(104,AV.bool v7)]) (fun v7=>[(0,.cells [Iz v0,Q0 v1,Lz v2])]) 1 (fun K787 hK787=>?_) ?_
             ·refine RG [] [none,none,none,some (80,true),some (80,true),some (80,true),some (80,true),some (80,true),some (80,true),some (80,true),some (80,true),some (80,true),none,none,some (91,false),some (91,false),some (91,false),some (91,false),some (91,false),none,none,some (98,false),some (98,false),some (98,false),some (98,false),some (98,false),none] fun _ _ g r=>?_;by_cases h18 : 0<v5
              ·replace hF:=AaZ h18 hF;have h18_:=h18;try simp at h18_
               obtain ⟨v8,h19,h20,h21,hF⟩:=Aad hF;have h21_:=Aas h21;try simp at h21_
               have h20_:=h20;try simp at h20_
               have F17:=A8 F16 h18 h18_ h19 h20 h21 h21_ h20_;try simp [F17]
               and_intros
               try any_goals first | omega | (simp [maxLen,F17] <;> omega)
               obtain ⟨v9,h22,hF⟩:=AaN hF;refine AC (AfO k _ _ _ _ _ _ _ h22) (.cons (.same (by simp [F17])) (.cons (.same (by simp [F17])) .nil)) ?_;by_cases h23 : (!v9)=true
               ·replace hF:=AaZ h23 hF;have h23_:=h23;try simp at h23_
                have F18:=A3 F17 h23 h23_;try simp [F18]
                and_intros <;> first | exact GK g | apply r | omega | (simp [maxLen,F18] <;> omega)
                refine hK787 _ _ _ ?_;refine RN h0 [(0,0)] [(1,AV.ptr 0 0),(3,Iz v5),(104,AV.bool true)] [(0,.cells [Iz v0,Q0 v1,Lz v2])] 1 (by simp [F18]) (by simp [F18]) ?_;exact JN (true) hF (by simp [F18]) (by simp [F18])
               ·replace hF:=Aaa h23 hF;have h23_:=h23;try simp at h23_
                have F19:=A3 F17 h23 h23_;try simp [F19]
                and_intros
                try any_goals first | omega | (simp [maxLen,F19] <;> omega)
                obtain ⟨v10,h24,hF⟩:=AaN hF;refine AC (Abj k _ _ _ h24) (.cons (.same (by simp [F19])) (.cons (.same (by simp [F19])) .nil)) ?_;by_cases h25 : v10=true
                ·replace hF:=AaZ h25 hF;have h25_:=h25;try simp at h25_
                 have F20:=A3 F19 h25 h25_;try simp [F20]
                 and_intros <;> first | exact GK g | apply r | omega | (simp [maxLen,F20] <;> omega)
                 refine hK787 _ _ _ ?_;refine RN h0 [(0,0)] [(1,AV.ptr 0 0),(3,Iz v5),(104,AV.bool true)] [(0,.cells [Iz v0,Q0 v1,Lz v2])] 1 (by simp [F20]) (by simp [F20]) ?_;exact JN (true) hF (by simp [F20]) (by simp [F20])
                ·replace hF:=Aaa h25 hF;have h25_:=h25;try simp at h25_
                 have F21:=A3 F19 h25 h25_;try simp [F21]
                 and_intros
                 try any_goals first | omega | (simp [maxLen,F21] <;> omega)
                 obtain ⟨v11,h26,hF⟩:=AaN hF;refine AC (Abj k _ _ _ h26) (.cons (.same (by simp [F21])) (.cons (.same (by simp [F21])) .nil)) ?_;try simp [F21]
                 and_intros <;> first | exact GK g | apply r | omega | (simp [maxLen,F21] <;> omega)
                 refine hK787 _ _ _ ?_;refine RN h0 [(0,0)] [(1,AV.ptr 0 0),(3,Iz v5),(104,AV.bool v11)] [(0,.cells [Iz v0,Q0 v1,Lz v2])] 1 (by simp [F21]) (by simp [F21]) ?_;exact JN (v11) hF (by simp [F21]) (by simp [F21])
              ·replace hF:=Aaa h18 hF;have h18_:=h18;try simp at h18_
               have F22:=A3 F16 h18 h18_;try simp [F22]
               and_intros
               try any_goals first | omega | (simp [maxLen,F22] <;> omega)
               obtain ⟨v12,h27,hF⟩:=AaN hF;refine AC (Abj k _ _ _ h27) (.cons (.same (by simp [F22])) (.cons (.same (by simp [F22])) .nil)) ?_;by_cases h28 : v12=true
               ·replace hF:=AaZ h28 hF;have h28_:=h28;try simp at h28_
                have F23:=A3 F22 h28 h28_;try simp [F23]
                and_intros <;> first | exact GK g | apply r | omega | (simp [maxLen,F23] <;> omega)
                refine hK787 _ _ _ ?_;refine RN h0 [(0,0)] [(1,AV.ptr 0 0),(3,Iz v5),(104,AV.bool true)] [(0,.cells [Iz v0,Q0 v1,Lz v2])] 1 (by simp [F23]) (by simp [F23]) ?_;exact JN (true) hF (by simp [F23]) (by simp [F23])
               ·replace hF:=Aaa h28 hF;have h28_:=h28;try simp at h28_
                have F24:=A3 F22 h28 h28_;try simp [F24]
                and_intros
                try any_goals first | omega | (simp [maxLen,F24] <;> omega)
                obtain ⟨v13,h29,hF⟩:=AaN hF;refine AC (Abj k _ _ _ h29) (.cons (.same (by simp [F24])) (.cons (.same (by simp [F24])) .nil)) ?_;try simp [F24]
                and_intros <;> first | exact GK g | apply r | omega | (simp [maxLen,F24] <;> omega)
                refine hK787 _ _ _ ?_;refine RN h0 [(0,0)] [(1,AV.ptr 0 0),(3,Iz v5),(104,AV.bool v13)] [(0,.cells [Iz v0,Q0 v1,Lz v2])] 1 (by simp [F24]) (by simp [F24]) ?_;exact JN (v13) hF (by simp [F24]) (by simp [F24])
             ·rintro v7 hF
              try dsimp only at hF
              unfold Aa1.J2 at hF;by_cases h17 : v7=true
              ·replace hF:=AaZ h17 hF;have h17_:=h17;try simp at h17_
               have F25:=A3 F16 h17 h17_;refine CT (by simp [F25] <;> omega) ?_;refine SW F25 [] [none] [1,3,104] [(2,Iz 14)] [0] [] 1 ?_;simp only [Option.some.injEq] at hF;subst hF;refine AW.ret (hQ _ _ _ ?_ (AaJ ?_)).1
               ·simp [Try.f63,F25]
               ·simp [F25]
              ·replace hF:=Aaa h17 hF;have h17_:=h17;try simp at h17_
               have F26:=A3 F16 h17 h17_;refine CF (by simp [F26] <;> omega) ?_;refine AW.skip ?_;refine hK765 _ _ _ ?_;refine RG [] [none,none,none] fun _ _ g r=>?_;try simp [F26]
               and_intros <;> first | exact GK g | apply r | omega | (simp [maxLen,F26] <;> omega)
               refine hK740 _ _ _ ?_;exact NX (k':=n1) (IntKind.wrap .i64 (v5+1)) hF (by simp [F26]) (by simp [F26])
     ·replace hF:=Aaa h6 hF;have h6_:=h6;try simp at h6_
      have F27:=A3 F5 h6 h6_;refine CF (by simp [F27] <;> omega) ?_;refine AW.exit ?_;try simp
      refine hK597 _ _ _ ?_;refine SW F27 [] [none] [1,3] [(2,Iz 0)] [0] [] 1 ?_;simp only [Option.some.injEq] at hF;subst hF;refine AW.ret (hQ _ _ _ ?_ (AaJ ?_)).1
      ·simp [Try.f63,F27]
      ·simp [F27]
end Go.TF
