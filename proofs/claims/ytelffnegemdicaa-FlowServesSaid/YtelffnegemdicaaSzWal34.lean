import Derived.Test.YtelffnegemdicaaSzWal28
import Derived.Test.YtelffnegemdicaaSzWal31
import Derived.Test.YtelffnegemdicaaSzWal32
import Derived.Test.YtelffnegemdicaaSzWal33
set_option linter.unusedVariables false
set_option linter.unusedSimpArgs false
set_option maxRecDepth 100000
set_option maxHeartbeats 4000000
namespace Go.TF
open Go Go.Abs Go.Proofs Go.Proofs.YtelffnegemdicaaSvT
theorem AhL (k : Nat) (v0 : Int) (v1 : (List AaA)) (v2 : (List Int)) (v3 : (List Int)) (v4 : (List Int)) (hF : Aag k v0 v1 v2 v3=some v4) :
 Aa6 Try.prog 73 [AV.agg [AV.int .i64 v0,Q2 v1,AV.lst false false (List.map (AV.int .i64) v2)],AV.lst false false (List.map (AV.int .i64) v3)] [] (AV.slc 0 0 1 v4.length false) [some (Ci v4)]:=by
 unfold Aag at hF;refine EN Try.func73 ?_;intro c0 w0 Q h0 hQ
 refine WK [(0,AV.agg [Iz v0,Q2 v1,Lz v2]),(1,Lz v3)] [] 0 (by simp) (by simp) ?_;refine SQ [] [none,none,none] fun _ _ g r=>?_;try simp
 and_intros <;> first | exact GK g | apply r | omega | (simp [maxLen] <;> omega)
 refine WK [(2,AV.ptr 0 0),(3,AV.ptr 1 0)] [(0,.cells [Iz v0,Q2 v1,Lz v2]),(1,.cells [Lz v3])] 2 (by simp) (by simp) ?_;refine SQ [] [none,none,none,none,none,none,none] fun _ _ g r=>?_;obtain ⟨v5,h1,hF⟩:=Ade hF;have h1_:=h1;try simp at h1_
 try simp [h1,h1_]
 and_intros
 try any_goals first | omega | (simp [h1,h1_,maxLen] <;> omega)
 obtain ⟨v6,h2,hF⟩:=AaO hF;refine AC (AeC k _ _ _ h2) (.cons (Coe.fl (by simp [h1,h1_])) (.cons (.same (by simp [h1,h1_])) .nil)) ?_;try simp [h1,h1_]
 and_intros <;> first | exact GK g | apply r | omega | (simp [h1,h1_,maxLen] <;> omega)
 refine WK [(2,AV.ptr 0 0),(3,AV.ptr 1 0),(5,AV.ptr 3 0)] [(0,.cells [Iz v0,Q2 v1,Lz v2]),(1,.cells [Lz v3]),(2,Ci v6),(3,.cells [AV.slc 2 0 1 v6.length false])] 4 (by simp [h1,h1_]) (by simp [h1,h1_]) ?_;refine SQ [] [none,none,none,none,none] fun _ _ g r=>?_;try simp [h1,h1_]
 and_intros
 try any_goals first | omega | (simp [h1,h1_,maxLen] <;> omega)
 obtain ⟨v7,h3,hF⟩:=AaO hF;refine Aa2 (AfN k _ _ _ _ _ _ h3) (by simp) [0,1] [] [] rfl (.cons (.same (by simp [h1,h1_])) (.cons (.same (by simp [h1,h1_])) .nil)) (by simp [h1,h1_]) (by decide) (by simp) (by simp) (.inl rfl) (by simp) (by simp) ?_;try simp [h1,h1_]
 and_intros <;> first | exact GK g | apply r | omega | (simp [h1,h1_,maxLen] <;> omega)
 refine WK [(2,AV.ptr 0 0),(5,AV.ptr 3 0),(6,AV.slc 4 0 1 v7.length false)] [(0,.cells [Iz v0,Q2 v1,Lz v2]),(2,Ci v6),(3,.cells [AV.slc 2 0 1 v6.length false]),(4,Gi v7)] 5 (by simp [h1,h1_]) (by simp [h1,h1_]) ?_;refine AW.frz 4 (o:=Gi v7) (by simp [h1,h1_]) rfl [(6,Lz v7)] [] ⟨(.l (by simp) (by simp) (by simp) (by simp)),trivial⟩ trivial ?_;refine WK [(2,AV.ptr 0 0),(5,AV.ptr 3 0),(6,Lz v7)] [(0,.cells [Iz v0,Q2 v1,Lz v2]),(2,Ci v6),(3,.cells [AV.slc 2 0 1 v6.length false])] 5 (by simp [h1,h1_]) (by simp [h1,h1_]) ?_;refine AW.seq fun K3315 hK3315=>?_;refine SQ [] [none] fun _ _ g r=>?_;try simp [h1,h1_]
 and_intros <;> first | exact GK g | apply r | omega | (simp [h1,h1_,maxLen] <;> omega)
 refine WK [(2,AV.ptr 0 0),(5,AV.ptr 3 0),(6,Lz v7),(7,Iz 0)] [(0,.cells [Iz v0,Q2 v1,Lz v2]),(2,Ci v6),(3,.cells [AV.slc 2 0 1 v6.length false])] 5 (by simp [h1,h1_]) (by simp [h1,h1_]) ?_;refine AW.block ?_;refine RM h0 [(0,0),(1,3),(2,2)] [(2,AV.ptr 0 0),(5,AV.ptr 1 0),(6,Lz v7),(7,Iz 0)] [(0,.cells [Iz v0,Q2 v1,Lz v2]),(1,.cells [AV.slc 2 0 1 v6.length false]),(2,Ci v6)] 3 (by simp [h1,h1_]) (by simp [h1,h1_]) ?_;refine AW.loopF (α:=((List Int)×Int×(List Int))) (fun n (v8,v9,v10)=>Aag.L1 k v0 v1 v2 n v8 v9 v10=some v4) (fun (v8,v9,v10)=>[(2,AV.ptr 0 0),(5,AV.ptr 1 0),(6,Lz v8),(7,Iz v9)]) (fun (v8,v9,v10)=>[(0,.cells [Iz v0,Q2 v1,Lz v2]),(1,.cells [AV.slc 2 0 1 v10.length false]),(2,Ci v10)]) 3 k ((v7,0,v6)) hF (by simp [h1,h1_]) (by simp [h1,h1_]) (by simp) ?_;rintro (_|n1) ⟨v8,v9,v10⟩ hF K4142 hK4142
 ·try dsimp only at hF
  rw [Aag.L1] at hF; cases hF
 try dsimp only at hF
 rw [Aag.L1] at hF;refine AW.seq fun K4144 hK4144=>?_;refine SQ [] [none,none,none] fun _ _ g r=>?_;try simp [h1,h1_]
 and_intros <;> first | exact GK g | apply r | omega | (simp [h1,h1_,maxLen] <;> omega)
 refine WK [(2,AV.ptr 0 0),(5,AV.ptr 1 0),(6,Lz v8),(7,Iz v9),(22,AV.bool (decide (0<(v8.length : Int))))] [(0,.cells [Iz v0,Q2 v1,Lz v2]),(1,.cells [AV.slc 2 0 1 v10.length false]),(2,Ci v10)] 3 (by simp [h1,h1_]) (by simp [h1,h1_]) ?_;by_cases h4 : 0<(v8.length : Int)
 ·replace hF:=AaW h4 hF;have h4_:=h4;try simp at h4_
  have F1:=A4 h1 h1_ h4 h4_;refine CT (by simp [F1] <;> omega) ?_;refine AW.skip ?_;refine hK4144 _ _ _ ?_;refine AW.seq fun K4281 hK4281=>?_;refine AW.block ?_;refine SQ [] [none] fun _ _ g r=>?_;try simp [F1]
  and_intros <;> first | exact GK g | apply r | omega | (simp [maxLen,F1] <;> omega)
  refine WK [(2,AV.ptr 0 0),(5,AV.ptr 1 0),(6,Lz v8),(7,Iz v9),(8,AV.lst true true (List.map (AV.int .i64) ([] : List Int)))] [(0,.cells [Iz v0,Q2 v1,Lz v2]),(1,.cells [AV.slc 2 0 1 v10.length false]),(2,Ci v10)] 3 (by simp [F1]) (by simp [F1]) ?_;refine AW.seq fun K4349 hK4349=>?_;refine SQ [] [none,none,none] fun _ _ g r=>?_;try simp [F1]
  and_intros <;> first | exact GK g | apply r | omega | (simp [maxLen,F1] <;> omega)
  refine WK [(2,AV.ptr 0 0),(5,AV.ptr 1 0),(7,Iz v9),(8,AV.lst true true (List.map (AV.int .i64) ([] : List Int))),(25,Lz v8),(26,Iz (v8.length : Int)),(27,Iz 0)] [(0,.cells [Iz v0,Q2 v1,Lz v2]),(1,.cells [AV.slc 2 0 1 v10.length false]),(2,Ci v10)] 3 (by simp [F1]) (by simp [F1]) ?_;refine AW.block ?_;refine AW.own' 8 1 true (by simp [F1]) (by decide) ?_;refine AW.loopF (α:=(Int×(List Int)×(List Int))) (fun n (v11,v12,v13)=>Aag.L2 k v0 v1 v2 v8 v9 (fun v8_ v9_ v10_=>Aag.L1 k v0 v1 v2 n1 v8_ v9_ v10_) n v11 v12 v13=some v4) (fun (v11,v12,v13)=>[(2,AV.ptr 0 0),(5,AV.ptr 1 0),(7,Iz v9),(8,AV.slc 3 0 1 v13.length false),(25,Lz v8),(26,Iz (v8.length : Int)),(27,Iz v11)]) (fun (v11,v12,v13)=>[(0,.cells [Iz v0,Q2 v1,Lz v2]),(1,.cells [AV.slc 2 0 1 v12.length false]),(2,Ci v12),(3,Gi v13)]) 4 k ((0,v10,([] : List Int))) hF (by simp [F1]) (by simp [F1]) (by simp) ?_;rintro (_|n2) ⟨v11,v12,v13⟩ hF K4399 hK4399
  ·try dsimp only at hF
   rw [Aag.L2] at hF; cases hF
  try dsimp only at hF
  rw [Aag.L2] at hF;refine SQ [] [none] fun _ _ g r=>?_;try simp [F1]
  and_intros <;> first | exact GK g | apply r | omega | (simp [maxLen,F1] <;> omega)
  refine WK [(2,AV.ptr 0 0),(5,AV.ptr 1 0),(7,Iz v9),(8,AV.slc 3 0 1 v13.length false),(25,Lz v8),(26,Iz (v8.length : Int)),(27,Iz v11),(28,AV.bool (decide (v11<(v8.length : Int))))] [(0,.cells [Iz v0,Q2 v1,Lz v2]),(1,.cells [AV.slc 2 0 1 v12.length false]),(2,Ci v12),(3,Gi v13)] 4 (by simp [F1]) (by simp [F1]) ?_;refine AW.seq fun K4401 hK4401=>?_;by_cases h5 : v11<(v8.length : Int)
  ·replace hF:=AaW h5 hF;have h5_:=h5;try simp at h5_
   have F2:=A3 F1 h5 h5_;refine CT (by simp [F2] <;> omega) ?_;refine AW.skip ?_;refine hK4401 _ _ _ ?_;refine AW.midF (α:=((List Int)×(List Int))) (fun (v14,v15)=>Aag.J3 k v11 (fun v11_ v12_ v13_=>Aag.L2 k v0 v1 v2 v8 v9 (fun v8_ v9_ v10_=>Aag.L1 k v0 v1 v2 n1 v8_ v9_ v10_) n2 v11_ v12_ v13_) v14 v15=some v4) (fun (v14,v15)=>[(2,AV.ptr 0 0),(5,AV.ptr 1 0),(7,Iz v9),(8,AV.slc 3 0 1 v15.length false),(25,Lz v8),(26,Iz (v8.length : Int)),(27,Iz v11)]) (fun (v14,v15)=>[(0,.cells [Iz v0,Q2 v1,Lz v2]),(1,.cells [AV.slc 2 0 1 v14.length false]),(2,Ci v14),(3,Gi v15)]) 4 (fun K4409 hK4409=>?_) ?_
   ·refine AW.block ?_;refine SQ [] [none,none,none] fun _ _ g r=>?_;obtain ⟨v16,h6,h7,h8,hF⟩:=AaZ hF;have h8_:=Aao h8;try simp at h8_
    have h7_:=h7;try simp at h7_
    have F3:=A6 F2 h6 h7 h8 h8_ h7_;try simp [F3]
    and_intros <;> first | exact GK g | apply r | omega | (simp [maxLen,F3] <;> omega)
    refine WK [(2,AV.ptr 0 0),(5,AV.ptr 1 0),(7,Iz v9),(8,AV.slc 3 0 1 v13.length false),(10,Iz v16),(25,Lz v8),(26,Iz (v8.length : Int)),(27,Iz v11)] [(0,.cells [Iz v0,Q2 v1,Lz v2]),(1,.cells [AV.slc 2 0 1 v12.length false]),(2,Ci v12),(3,Gi v13)] 4 (by simp [F3]) (by simp [F3]) ?_;refine AW.seq fun K4412 hK4412=>?_;refine SQ [] [none,none,none,none,none] fun _ _ g r=>?_;obtain ⟨⟨h9,h10⟩,hF⟩:=AaY hF;have h10_:=AbE h10;obtain ⟨v17,h11,h12,h13,hF⟩:=AaZ hF;have h13_:=Aao h13;try simp at h13_
    have h12_:=h12;try simp at h12_
    have F4:=A9 F3 h9 h10 h10_ h11 h12 h13 h13_ h12_;try simp [F4]
    and_intros <;> first | exact GK g | apply r | omega | (simp [maxLen,F4] <;> omega)
    refine WK [(2,AV.ptr 0 0),(5,AV.ptr 1 0),(7,Iz v9),(8,AV.slc 3 0 1 v13.length false),(10,Iz v16),(25,Lz v8),(26,Iz (v8.length : Int)),(27,Iz v11),(35,AV.bool (decide (0≤v17)))] [(0,.cells [Iz v0,Q2 v1,Lz v2]),(1,.cells [AV.slc 2 0 1 v12.length false]),(2,Ci v12),(3,Gi v13)] 4 (by simp [F4]) (by simp [F4]) ?_;by_cases h14 : 0≤v17
    ·replace hF:=AaW h14 hF;have h14_:=h14;try simp at h14_
     have F5:=A3 F4 h14 h14_;refine CT (by simp [F5] <;> omega) ?_;refine AW.exit ?_;try simp
     refine hK4409 _ _ _ ?_;exact JN ((v12,v13)) hF (by simp [F5]) (by simp [F5])
    ·replace hF:=AaX h14 hF;have h14_:=h14;try simp at h14_
     have F6:=A3 F4 h14 h14_;refine CF (by simp [F6] <;> omega) ?_;refine AW.skip ?_;refine hK4412 _ _ _ ?_;refine SQ [] [none,none,none,none,none] fun _ _ g r=>?_;obtain ⟨⟨h15,h16⟩,hF⟩:=AaY hF;have h16_:=AbE h16;have F7:=A4 F6 h15 h16 h16_;try simp [F7]
     and_intros <;> first | exact GK g | apply r | omega | (simp [maxLen,F7] <;> omega)
     refine WK [(2,AV.ptr 0 0),(5,AV.ptr 1 0),(7,Iz v9),(8,AV.slc 3 0 1 v13.length false),(10,Iz v16),(25,Lz v8),(26,Iz (v8.length : Int)),(27,Iz v11)] [(0,.cells [Iz v0,Q2 v1,Lz v2]),(1,.cells [AV.slc 2 0 1 ((v12.set (v16).toNat v9).length) false]),(2,Ci (v12.set (v16).toNat v9)),(3,Gi v13)] 4 (by simp [F7]) (by simp [F7]) ?_;refine RG [] [none,none,none,none,none,none] fun _ _ g r=>?_;try simp [F7]
     and_intros
     try any_goals first | omega | (simp [maxLen,F7] <;> omega)
     obtain ⟨v18,h17,hF⟩:=AaO hF;refine AC (Ajq k _ _ _ _ _ h17) (.cons (.same (by simp [F7])) (.cons (.same (by simp [F7])) .nil)) ?_;obtain ⟨h18,hF⟩:=AaY hF;have h18_:=h18;try simp at h18_
     have F8:=A2 F7 h18;try simp [F8]
     and_intros <;> first | exact GK g | apply r | omega | (simp [maxLen,F8] <;> omega)
     refine hK4409 _ _ _ ?_;refine RN h0 [(0,0),(1,1),(2,2),(3,4)] [(2,AV.ptr 0 0),(5,AV.ptr 1 0),(7,Iz v9),(8,AV.slc 3 0 1 ((v13++v18).length) false),(25,Lz v8),(26,Iz (v8.length : Int)),(27,Iz v11)] [(0,.cells [Iz v0,Q2 v1,Lz v2]),(1,.cells [AV.slc 2 0 1 ((v12.set (v16).toNat v9).length) false]),(2,Ci (v12.set (v16).toNat v9)),(3,Gi (v13++v18))] 4 (by simp [F8] <;> omega) (by simp [F8]) ?_;exact JN ((v12.set (v16).toNat v9,v13++v18)) hF (by simp [F8]) (by simp [F8])
   ·rintro ⟨v14,v15⟩ hF
    try dsimp only at hF
    unfold Aag.J3 at hF;refine RG [] [none,none] fun _ _ g r=>?_;try simp [F2]
    and_intros <;> first | exact GK g | apply r | omega | (simp [maxLen,F2] <;> omega)
    refine hK4399 _ _ _ ?_;exact NX (k':=n2) ((IntKind.wrap .i64 (v11+1),v14,v15)) hF (by simp [F2]) (by simp [F2])
  ·replace hF:=AaX h5 hF;have h5_:=h5;try simp at h5_
   have F9:=A3 F1 h5 h5_;refine CF (by simp [F9] <;> omega) ?_;refine AW.exit ?_;try simp
   refine hK4349 _ _ _ ?_;refine RG [] [none,none,none,none] fun _ _ g r=>?_;try simp [F9]
   and_intros
   try any_goals first | omega | (simp [maxLen,F9] <;> omega)
   obtain ⟨v19,h19,hF⟩:=AaO hF;refine Aa2 (Acx k _ _ _ h19) (by simp) [3,1,2] [] [3] rfl (.cons (.same (by simp [F9])) (.cons (.same (by simp [F9])) .nil)) (by simp [F9]) (by decide) (by simp) (by simp) (.inl rfl) (by simp) (by simp) ?_;try simp [F9]
   and_intros <;> first | exact GK g | apply r | omega | (simp [maxLen,F9] <;> omega)
   refine hK4281 _ _ _ ?_;refine WK [(2,AV.ptr 0 0),(5,AV.ptr 1 0),(6,Lz v19),(7,Iz v9)] [(0,.cells [Iz v0,Q2 v1,Lz v2]),(1,.cells [AV.slc 2 0 1 v12.length false]),(2,Ci v12)] 4 (by simp [F9]) (by simp [F9]) ?_;refine RG [] [none,none,none] fun _ _ g r=>?_;try simp [F9]
   and_intros <;> first | exact GK g | apply r | omega | (simp [maxLen,F9] <;> omega)
   refine hK4142 _ _ _ ?_;refine RN h0 [(0,0),(1,1),(2,2)] [(2,AV.ptr 0 0),(5,AV.ptr 1 0),(6,Lz v19),(7,Iz (IntKind.wrap .i64 (v9+1)))] [(0,.cells [Iz v0,Q2 v1,Lz v2]),(1,.cells [AV.slc 2 0 1 v12.length false]),(2,Ci v12)] 3 (by simp [F9]) (by simp [F9]) ?_;exact NX (k':=n1) ((v19,IntKind.wrap .i64 (v9+1),v12)) hF (by simp [F9]) (by simp [F9])
 ·replace hF:=AaX h4 hF;have h4_:=h4;try simp at h4_
  have F10:=A4 h1 h1_ h4 h4_;refine CF (by simp [F10] <;> omega) ?_;refine AW.exit ?_;try simp
  refine hK3315 _ _ _ ?_;refine SQ [] [none,none] fun _ _ g r=>?_;try simp [F10]
  and_intros <;> first | exact GK g | apply r | omega | (simp [maxLen,F10] <;> omega)
  refine RM h0 [(0,2)] [(4,AV.slc 0 0 1 v10.length false)] [(0,Ci v10)] 1 (by simp [F10]) (by simp [F10]) ?_;simp only [Option.some.injEq] at hF;subst hF;refine AW.ret (hQ _ _ _ ?_ (AaE ?_)).1
  ·simp [Try.f73,F10]
  ·simp [F10]
theorem Ah3 (k : Nat) (v0 : (List Int)) (v1 : (List Int)) (v2 : Int) (v3 : Int) (v4 : Int) (hF : Adj k v0 v1 v2 v3=some v4) :
 Aa6 Try.prog 74 [AV.agg [AV.lst false false (List.map (AV.int .i64) v0),AV.lst false false (List.map (AV.int .i64) v1),AV.int .i64 v2],AV.int .i64 v3] [] (AV.int .i64 v4) []:=by
 unfold Adj at hF;refine EN Try.func74 ?_;intro c0 w0 Q h0 hQ
 refine WK [(0,AV.agg [Lz v0,Lz v1,Iz v2]),(1,Iz v3)] [] 0 (by simp) (by simp) ?_;refine SQ [] [none,none] fun _ _ g r=>?_;try simp
 and_intros <;> first | exact GK g | apply r | omega | (simp [maxLen] <;> omega)
 refine WK [(1,Iz v3),(2,AV.ptr 0 0)] [(0,.cells [Lz v0,Lz v1,Iz v2])] 1 (by simp) (by simp) ?_;refine AW.seq fun K17 hK17=>?_;refine AW.block ?_;refine SQ [] [none,none,none] fun _ _ g r=>?_;try simp
 and_intros <;> first | exact GK g | apply r | omega | (simp [maxLen] <;> omega)
 refine WK [(1,Iz v3),(2,AV.ptr 0 0),(5,AV.bool (decide (v3<0)))] [(0,.cells [Lz v0,Lz v1,Iz v2])] 1 (by simp) (by simp) ?_;by_cases h1 : v3<0
 ·replace hF:=AaW h1 hF;have h1_:=h1;try simp at h1_
  refine CT (by simp [h1,h1_] <;> omega) ?_;refine SQ [] [none] fun _ _ g r=>?_;try simp [h1,h1_]
  and_intros <;> first | exact GK g | apply r | omega | (simp [h1,h1_,maxLen] <;> omega)
  refine WK [(4,Iz 0)] [] 1 (by simp [h1,h1_]) (by simp [h1,h1_]) ?_;simp only [Option.some.injEq] at hF;subst hF;refine AW.ret (hQ _ _ _ ?_ (AaE ?_)).1
  ·simp [Try.f74,h1,h1_]
  ·simp [h1,h1_]
 ·replace hF:=AaX h1 hF;have h1_:=h1;try simp at h1_
  refine CF (by simp [h1,h1_] <;> omega) ?_;refine SQ [] [none,none,none,none,none,none] fun _ _ g r=>?_;try simp [h1,h1_]
  and_intros <;> first | exact GK g | apply r | omega | (simp [h1,h1_,maxLen] <;> omega)
  refine WK [(1,Iz v3),(2,AV.ptr 0 0),(8,AV.bool (decide (v3<(v1.length : Int))))] [(0,.cells [Lz v0,Lz v1,Iz v2])] 1 (by simp [h1,h1_]) (by simp [h1,h1_]) ?_;by_cases h2 : v3<(v1.length : Int)
  ·replace hF:=AaW h2 hF;have h2_:=h2;try simp at h2_
   have F1:=A4 h1 h1_ h2 h2_;refine CT (by simp [F1] <;> omega) ?_;refine SQ [] [none,none,none,none,none,none] fun _ _ g r=>?_;obtain ⟨v5,h3,h4,h5,hF⟩:=AaZ hF;have h5_:=Aao h5;try simp at h5_
   have h4_:=h4;try simp at h4_
   have F2:=A6 F1 h3 h4 h5 h5_ h4_;try simp [F2]
   and_intros <;> first | exact GK g | apply r | omega | (simp [maxLen,F2] <;> omega)
   refine WK [(4,Iz v5)] [] 1 (by simp [F2]) (by simp [F2]) ?_;simp only [Option.some.injEq] at hF;subst hF;refine AW.ret (hQ _ _ _ ?_ (AaE ?_)).1
   ·simp [Try.f74,F2]
   ·simp [F2]
  ·replace hF:=AaX h2 hF;have h2_:=h2;try simp at h2_
   have F3:=A4 h1 h1_ h2 h2_;refine CF (by simp [F3] <;> omega) ?_;refine AW.skip ?_;refine hK17 _ _ _ ?_;refine SQ [] [none] fun _ _ g r=>?_;try simp [F3]
   and_intros <;> first | exact GK g | apply r | omega | (simp [maxLen,F3] <;> omega)
   refine WK [(4,Iz 1)] [] 1 (by simp [F3]) (by simp [F3]) ?_;simp only [Option.some.injEq] at hF;subst hF;refine AW.ret (hQ _ _ _ ?_ (AaE ?_)).1
   ·simp [Try.f74,F3]
   ·simp [F3]
theorem AhN (k : Nat) (v0 : Int) (v1 : (List AaA)) (v2 : (List Int)) (v3 : (List Int)) (v4 : (List Int)) (v5 : Int) (v6 : (List Int)) (hF : AbU k v0 v1 v2 v3 v4 v5=some v6) :
 Aa6 Try.prog 43 [AV.agg [AV.int .i64 v0,Q2 v1,AV.lst false false (List.map (AV.int .i64) v2)],AV.agg [AV.lst false false (List.map (AV.int .i64) v3),AV.lst false false (List.map (AV.int .i64) v4),AV.int .i64 v5]] [] (AV.slc 0 0 1 v6.length false) [some (Ci v6)]:=by
 unfold AbU at hF;refine EN Try.func43 ?_;intro c0 w0 Q h0 hQ
 refine WK [(0,AV.agg [Iz v0,Q2 v1,Lz v2]),(1,AV.agg [Lz v3,Lz v4,Iz v5])] [] 0 (by simp) (by simp) ?_;refine SQ [] [none,none,none] fun _ _ g r=>?_;try simp
 and_intros <;> first | exact GK g | apply r | omega | (simp [maxLen] <;> omega)
 refine WK [(2,AV.ptr 0 0),(3,AV.ptr 1 0)] [(0,.cells [Iz v0,Q2 v1,Lz v2]),(1,.cells [Lz v3,Lz v4,Iz v5])] 2 (by simp) (by simp) ?_;refine SQ [] [none,none,none,none,none,none,none,none] fun _ _ g r=>?_;try simp
 and_intros
 try any_goals first | omega | (simp [maxLen] <;> omega)
 obtain ⟨v7,v8,v9,h1,hF⟩:=Adm hF;refine AC (AeX k _ _ _ _ _ _ _ h1) (.cons (.same (by simp)) (.cons (.same (by simp)) .nil)) ?_;try simp
 and_intros
 try any_goals first | omega | (simp [maxLen] <;> omega)
 obtain ⟨v10,h2,hF⟩:=AaO hF;refine Aa2 (AhL k _ _ _ _ _ h2) (by simp) [] [2] [] rfl (.cons (.agg (.cons (.same (by simp)) (.cons (.same (by simp)) (.cons (Coe.l (o:=Gi v9) (by simp) rfl (by simp) (by simp [AdK]) (by simp) (by simp)) .nil)))) (.cons (.same (by simp)) .nil)) (by simp) (by decide) (by simp) (by simp) (.inr ⟨by simp,by simp⟩) (by simp) (by simp) ?_;try simp
 and_intros <;> first | exact GK g | apply r | omega | (simp [maxLen] <;> omega)
 refine WK [(3,AV.ptr 1 0),(5,AV.slc 3 0 1 v10.length false)] [(1,.cells [Lz v3,Lz v4,Iz v5]),(3,Ci v10)] 4 (by simp) (by simp) ?_;refine AW.seq fun K109 hK109=>?_;refine SQ [] [none,none,none] fun _ _ g r=>?_;try simp
 and_intros <;> first | exact GK g | apply r | omega | (simp [maxLen] <;> omega)
 refine WK [(3,AV.ptr 1 0),(5,AV.slc 3 0 1 v10.length false),(15,AV.slc 3 0 1 v10.length false),(16,Iz (v10.length : Int)),(17,Iz 0)] [(1,.cells [Lz v3,Lz v4,Iz v5]),(3,Ci v10)] 4 (by simp) (by simp) ?_;refine AW.block ?_;refine RM h0 [(0,1),(1,3)] [(3,AV.ptr 0 0),(5,AV.slc 1 0 1 v10.length false),(15,AV.slc 1 0 1 v10.length false),(16,Iz (v10.length : Int)),(17,Iz 0)] [(0,.cells [Lz v3,Lz v4,Iz v5]),(1,Ci v10)] 2 (by simp) (by simp) ?_;refine AW.loopF (α:=(Int×(List Int))) (fun n (v11,v12)=>AbU.L1 k v3 v4 v5 v10 n v11 v12=some v6) (fun (v11,v12)=>[(3,AV.ptr 0 0),(5,AV.slc 1 0 1 v12.length false),(15,AV.slc 1 0 1 v12.length false),(16,Iz (v10.length : Int)),(17,Iz v11)]) (fun (v11,v12)=>[(0,.cells [Lz v3,Lz v4,Iz v5]),(1,Ci v12)]) 2 k ((0,v10)) hF (by simp) (by simp) (by simp) ?_;rintro (_|n1) ⟨v11,v12⟩ hF K135 hK135
 ·try dsimp only at hF
  rw [AbU.L1] at hF; cases hF
 try dsimp only at hF
 rw [AbU.L1] at hF;refine SQ [] [none] fun _ _ g r=>?_;try simp
 and_intros <;> first | exact GK g | apply r | omega | (simp [maxLen] <;> omega)
 refine WK [(3,AV.ptr 0 0),(5,AV.slc 1 0 1 v12.length false),(15,AV.slc 1 0 1 v12.length false),(16,Iz (v10.length : Int)),(17,Iz v11),(18,AV.bool (decide (v11<(v10.length : Int))))] [(0,.cells [Lz v3,Lz v4,Iz v5]),(1,Ci v12)] 2 (by simp) (by simp) ?_;refine AW.seq fun K137 hK137=>?_;by_cases h3 : v11<(v10.length : Int)
 ·replace hF:=AaW h3 hF;have h3_:=h3;try simp at h3_
  refine CT (by simp [h3,h3_] <;> omega) ?_;refine AW.skip ?_;refine hK137 _ _ _ ?_;refine AW.seq fun K140 hK140=>?_;refine AW.block ?_;refine SQ [] [none,none,none,none,none] fun _ _ g r=>?_;obtain ⟨⟨h4,h5⟩,hF⟩:=AaY hF;have h5_:=AbE h5;obtain ⟨v13,h6,h7,h8,hF⟩:=AaZ hF;have h8_:=Aao h8;try simp at h8_
  have h7_:=h7;try simp at h7_
  have F1:=A9 h3 h3_ h4 h5 h5_ h6 h7 h8 (A2 h8_ h7_);try simp [F1]
  and_intros <;> first | exact GK g | apply r | omega | (simp [maxLen,F1] <;> omega)
  refine WK [(3,AV.ptr 0 0),(5,AV.slc 1 0 1 v12.length false),(6,Iz v11),(7,Iz v13),(15,AV.slc 1 0 1 v12.length false),(16,Iz (v10.length : Int)),(17,Iz v11)] [(0,.cells [Lz v3,Lz v4,Iz v5]),(1,Ci v12)] 2 (by simp [F1]) (by simp [F1]) ?_;refine RG [] [none,none,none,none,none,none,none] fun _ _ g r=>?_;try simp [F1]
  and_intros
  try any_goals first | omega | (simp [maxLen,F1] <;> omega)
  obtain ⟨v14,h9,hF⟩:=AaO hF;refine AC (Ah3 k _ _ _ _ _ h9) (.cons (.same (by simp [F1])) (.cons (.same (by simp [F1])) .nil)) ?_;obtain ⟨⟨h10,h11⟩,hF⟩:=AaY hF;have h11_:=AbE h11;have F2:=A4 F1 h10 h11 h11_;try simp [F2]
  and_intros <;> first | exact GK g | apply r | omega | (simp [maxLen,F2] <;> omega)
  refine hK140 _ _ _ ?_;refine WK [(3,AV.ptr 0 0),(5,AV.slc 1 0 1 ((v12.set (v11).toNat v14).length) false),(15,AV.slc 1 0 1 ((v12.set (v11).toNat v14).length) false),(16,Iz (v10.length : Int)),(17,Iz v11)] [(0,.cells [Lz v3,Lz v4,Iz v5]),(1,Ci (v12.set (v11).toNat v14))] 2 (by simp [F2]) (by simp [F2]) ?_;refine RG [] [none,none] fun _ _ g r=>?_;try simp [F2]
  and_intros <;> first | exact GK g | apply r | omega | (simp [maxLen,F2] <;> omega)
  refine hK135 _ _ _ ?_;exact NX (k':=n1) ((IntKind.wrap .i64 (v11+1),v12.set (v11).toNat v14)) hF (by simp [F2]) (by simp [F2])
 ·replace hF:=AaX h3 hF;have h3_:=h3;try simp at h3_
  refine CF (by simp [h3,h3_] <;> omega) ?_;refine AW.exit ?_;try simp
  refine hK109 _ _ _ ?_;refine SQ [] [none,none] fun _ _ g r=>?_;try simp [h3,h3_]
  and_intros <;> first | exact GK g | apply r | omega | (simp [h3,h3_,maxLen] <;> omega)
  refine RM h0 [(0,1)] [(4,AV.slc 0 0 1 v12.length false)] [(0,Ci v12)] 1 (by simp [h3,h3_]) (by simp [h3,h3_]) ?_;simp only [Option.some.injEq] at hF;subst hF;refine AW.ret (hQ _ _ _ ?_ (AaE ?_)).1
  ·simp [Try.f43,h3,h3_]
  ·simp [h3,h3_]
theorem Acb (k : Nat) (v0 : Int) (v1 : Int) (v2 : Int) (v3 : Int) (v4 : (List AaC)) (v5 : (List AaC)) (hF : Abo k v0 v1 v2 v3 v4=some v5) :
 Aa6 Try.prog 42 [AV.int .i64 v0,AV.int .i64 v1,AV.int .i64 v2,AV.ptr 0 0] [.cells [AV.int .i64 v3,AV.slc 1 0 3 v4.length false],.grow (AaL (List.map AaC.av v4))] (AV.tup []) [some (.cells [AV.int .i64 v3,AV.slc 2 0 3 v5.length false]),none,some (.grow (AaL (List.map AaC.av v5)))]:=by
 unfold Abo at hF;refine EN Try.func42 ?_;intro c0 w0 Q h0 hQ
 refine WK [(0,Iz v0),(1,Iz v1),(2,Iz v2),(3,AV.ptr 0 0)] [(0,.cells [Iz v3,AV.slc 1 0 3 v4.length false]),(1,.grow (AaL (List.map AaC.av v4)))] 2 (by simp) (by simp) ?_;refine RG [] [none,none,none,none,none,none,none,none,none,none] fun _ _ g r=>?_;obtain ⟨h1,hF⟩:=AaY hF;have h1_:=h1;try simp at h1_
 try simp [h1]
 and_intros <;> first | exact GK g | apply r | omega | (simp [h1,maxLen] <;> omega)
 simp only [Option.some.injEq] at hF;subst hF;refine (hQ _ _ _ ?_ (AaE ?_)).2
 ·simp [Try.f42,h1]
 ·simp [h1]
theorem AgJ (k : Nat) (v0 : Int) (v1 : Int) (hF : AdV k v0=some v1) :
 Aa6 Try.prog 44 [AV.int .i64 v0] [] (AV.int .i64 v1) []:=by
 unfold AdV at hF;refine EN Try.func44 ?_;intro c0 w0 Q h0 hQ
 refine WK [(0,Iz v0)] [] 0 (by simp) (by simp) ?_;refine SQ [] [none] fun _ _ g r=>?_;try simp
 and_intros <;> first | exact GK g | apply r | omega | (simp [maxLen] <;> omega)
 refine WK [(0,Iz v0)] [] 0 (by simp) (by simp) ?_;refine SQ [] [none,none,none,none] fun _ _ g r=>?_;try simp
 and_intros
 try any_goals first | omega | (simp [maxLen] <;> omega)
 obtain ⟨v2,h1,hF⟩:=AaO hF;refine AC (Ab4 k _ _ h1) (.cons (.same (by simp)) .nil) ?_;try simp
 and_intros <;> first | exact GK g | apply r | omega | (simp [maxLen] <;> omega)
 refine WK [(2,Iz (IntKind.wrap .i64 (v2+1)))] [] 0 (by simp) (by simp) ?_;simp only [Option.some.injEq] at hF;subst hF;refine AW.ret (hQ _ _ _ ?_ (AaE ?_)).1
 ·simp [Try.f44]
 ·simp
theorem Agi (k : Nat) (v0 : Int) (v1 : (List AaA)) (v2 : (List Int)) (v3 : (List Int)) (v4 : (List Int)) (v5 : Int) (v6 : (List Int)) (v7 : Int) (v8 : (List AaC)) (v9 : Int) (hF : AaN k v0 v1 v2 v3 v4 v5 v6=some (v7,v8,v9)) :
 Aa6 Try.prog 15 [AV.agg [AV.int .i64 v0,Q2 v1,AV.lst false false (List.map (AV.int .i64) v2)],AV.agg [AV.lst false false (List.map (AV.int .i64) v3),AV.lst false false (List.map (AV.int .i64) v4),AV.int .i64 v5],AV.lst false false (List.map (AV.int .i64) v6)] [] (AV.tup [AV.agg [AV.int .i64 v7,AV.slc 0 0 3 v8.length false],AV.int .i64 v9]) [some (.grow (AaL (List.map AaC.av v8)))]:=by
 unfold AaN at hF;refine EN Try.func15 ?_;intro c0 w0 Q h0 hQ
 refine WK [(0,AV.agg [Iz v0,Q2 v1,Lz v2]),(1,AV.agg [Lz v3,Lz v4,Iz v5]),(2,Lz v6)] [] 0 (by simp) (by simp) ?_;refine SQ [] [none,none,none,none] fun _ _ g r=>?_;try simp
 and_intros <;> first | exact GK g | apply r | omega | (simp [maxLen] <;> omega)
 refine WK [(2,Lz v6),(3,AV.ptr 0 0),(4,AV.ptr 1 0),(6,AV.ptr 2 0)] [(0,.cells [Iz v0,Q2 v1,Lz v2]),(1,.cells [Lz v3,Lz v4,Iz v5]),(2,.cells [Iz 0,AV.lst true true (List.map AaC.av ([] : List AaC))])] 3 (by simp) (by simp) ?_;refine AW.seq fun K362 hK362=>?_;refine SQ [] [none,none,none,none] fun _ _ g r=>?_;try simp
 and_intros
 try any_goals first | omega | (simp [maxLen] <;> omega)
 obtain ⟨v10,h1,hF⟩:=AaO hF;refine AC (AgR k _ _ _ _ _ _ _ h1) (.cons (.same (by simp)) (.cons (.same (by simp)) .nil)) ?_;try simp
 and_intros <;> first | exact GK g | apply r | omega | (simp [maxLen] <;> omega)
 refine WK [(2,Lz v6),(3,AV.ptr 0 0),(4,AV.ptr 1 0),(6,AV.ptr 2 0),(8,Iz v10)] [(0,.cells [Iz v0,Q2 v1,Lz v2]),(1,.cells [Lz v3,Lz v4,Iz v5]),(2,.cells [Iz 0,AV.lst true true (List.map AaC.av ([] : List AaC))])] 3 (by simp) (by simp) ?_;refine SQ [] [none,none] fun _ _ g r=>?_;try simp
 and_intros <;> first | exact GK g | apply r | omega | (simp [maxLen] <;> omega)
 refine WK [(2,Lz v6),(3,AV.ptr 0 0),(4,AV.ptr 1 0),(6,AV.ptr 2 0),(8,Iz v10),(24,AV.bool (v10 !=0))] [(0,.cells [Iz v0,Q2 v1,Lz v2]),(1,.cells [Lz v3,Lz v4,Iz v5]),(2,.cells [Iz 0,AV.lst true true (List.map AaC.av ([] : List AaC))])] 3 (by simp) (by simp) ?_;by_cases h2 : v10≠0
 ·replace hF:=AaW h2 hF;have h2_:=Abj h2;have h2__:=Abk h2;have F1:=A3 h2 h2_ h2__;refine CT (by simp [F1] <;> omega) ?_;refine SQ [] [none,none,none,none] fun _ _ g r=>?_;try simp [F1]
  and_intros <;> first | exact GK g | apply r | omega | (simp [maxLen,F1] <;> omega)
  refine WK [(6,AV.ptr 2 0),(7,Iz v10)] [(2,.cells [Iz 0,AV.lst true true (List.map AaC.av ([] : List AaC))])] 3 (by simp [F1]) (by simp [F1]) ?_;refine AW.ownC 2 1 3 true (cs:=[Iz 0,AV.lst true true (List.map AaC.av ([] : List AaC))]) (by simp [F1]) (by simp) ?_;refine RM h0 [(0,3),(1,2)] [(6,AV.ptr 1 0),(7,Iz v10)] [(0,.grow (AaL (List.map AaC.av ([] : List AaC)))),(1,.cells [Iz 0,AV.slc 0 0 3 (([] : List AaC).length) false])] 2 (by simp [F1]) (by simp [F1]) ?_;simp only [Option.some.injEq,Prod.mk.injEq] at hF;obtain ⟨e0,e1,e2⟩:=hF;subst e0 e1 e2;refine AW.ret (hQ _ _ _ ?_ (AaE ?_)).1
  ·simp [Try.f15,F1]
  ·simp [F1]
 ·replace hF:=AaX h2 hF;have h2q : v10=0:=Classical.not_not.1 h2;have h2_:=Abn h2q;have h2__:=Abm h2q;have F2:=A3 h2_ h2__ h2q;refine CF (by simp [F2] <;> omega) ?_;refine AW.skip ?_;refine hK362 _ _ _ ?_;refine AW.seq fun K368 hK368=>?_;refine SQ [] [none,none,none,none,none,none] fun _ _ g r=>?_;try simp [F2]
  and_intros
  try any_goals first | omega | (simp [maxLen,F2] <;> omega)
  obtain ⟨v11,h3,hF⟩:=AaO hF;refine AC (Adv k _ _ _ _ h3) (.cons (.same (by simp [F2])) (.cons (.same (by simp [F2])) (.cons (.same (by simp [F2])) .nil))) ?_;try simp [F2]
  and_intros <;> first | exact GK g | apply r | omega | (simp [maxLen,F2] <;> omega)
  refine WK [(2,Lz v6),(3,AV.ptr 0 0),(4,AV.ptr 1 0),(6,AV.ptr 2 0),(32,AV.bool (!v11))] [(0,.cells [Iz v0,Q2 v1,Lz v2]),(1,.cells [Lz v3,Lz v4,Iz v5]),(2,.cells [Iz 0,AV.lst true true (List.map AaC.av ([] : List AaC))])] 3 (by simp [F2]) (by simp [F2]) ?_;by_cases h4 : (!v11)=true
  ·replace hF:=AaW h4 hF;have h4_:=h4;try simp at h4_
   have F3:=A3 F2 h4 h4_;refine CT (by simp [F3] <;> omega) ?_;refine SQ [] [none,none,none] fun _ _ g r=>?_;try simp [F3]
   and_intros <;> first | exact GK g | apply r | omega | (simp [maxLen,F3] <;> omega)
   refine WK [(6,AV.ptr 2 0),(7,Iz 4)] [(2,.cells [Iz 0,AV.lst true true (List.map AaC.av ([] : List AaC))])] 3 (by simp [F3]) (by simp [F3]) ?_;refine AW.ownC 2 1 3 true (cs:=[Iz 0,AV.lst true true (List.map AaC.av ([] : List AaC))]) (by simp [F3]) (by simp) ?_;refine RM h0 [(0,3),(1,2)] [(6,AV.ptr 1 0),(7,Iz 4)] [(0,.grow (AaL (List.map AaC.av ([] : List AaC)))),(1,.cells [Iz 0,AV.slc 0 0 3 (([] : List AaC).length) false])] 2 (by simp [F3]) (by simp [F3]) ?_;simp only [Option.some.injEq,Prod.mk.injEq] at hF;obtain ⟨e0,e1,e2⟩:=hF;subst e0 e1 e2;refine AW.ret (hQ _ _ _ ?_ (AaE ?_)).1
   ·simp [Try.f15,F3]
   ·simp [F3]
  ·replace hF:=AaX h4 hF;have h4_:=h4;try simp at h4_
   have F4:=A3 F2 h4 h4_;refine CF (by simp [F4] <;> omega) ?_;refine AW.skip ?_;refine hK368 _ _ _ ?_;refine SQ [] [none,none,none,none,none,none] fun _ _ g r=>?_;try simp [F4]
   and_intros
   try any_goals first | omega | (simp [maxLen,F4] <;> omega)
   obtain ⟨v12,h5,hF⟩:=AaO hF;refine AC (Ab4 k _ _ h5) (.cons (.same (by simp [F4])) .nil) ?_;try simp [F4]
   and_intros <;> first | exact GK g | apply r | omega | (simp [maxLen,F4] <;> omega)
   refine WK [(2,Lz v6),(3,AV.ptr 0 0),(4,AV.ptr 1 0),(6,AV.ptr 2 0),(9,AV.ptr 3 0)] [(0,.cells [Iz v0,Q2 v1,Lz v2]),(1,.cells [Lz v3,Lz v4,Iz v5]),(2,.cells [Iz 0,AV.lst true true (List.map AaC.av ([] : List AaC))]),(3,.cells [Iz v12,AV.lst true true (List.map AaC.av ([] : List AaC))])] 4 (by simp [F4]) (by simp [F4]) ?_;refine SQ [] [none,none] fun _ _ g r=>?_;try simp [F4]
   and_intros <;> first | exact GK g | apply r | omega | (simp [maxLen,F4] <;> omega)
   refine WK [(2,Lz v6),(3,AV.ptr 0 0),(4,AV.ptr 1 0),(6,AV.ptr 2 0),(9,AV.ptr 3 0),(10,AV.fn 42 [AV.ptr 3 0])] [(0,.cells [Iz v0,Q2 v1,Lz v2]),(1,.cells [Lz v3,Lz v4,Iz v5]),(2,.cells [Iz 0,AV.lst true true (List.map AaC.av ([] : List AaC))]),(3,.cells [Iz v12,AV.lst true true (List.map AaC.av ([] : List AaC))])] 4 (by simp [F4]) (by simp [F4]) ?_;refine SQ [] [none,none,none,none] fun _ _ g r=>?_;try simp [F4]
   and_intros
   try any_goals first | omega | (simp [maxLen,F4] <;> omega)
   obtain ⟨v13,h6,hF⟩:=AaO hF;refine AC (AhN k _ _ _ _ _ _ _ h6) (.cons (.same (by simp [F4])) (.cons (.same (by simp [F4])) .nil)) ?_;try simp [F4]
   and_intros <;> first | exact GK g | apply r | omega | (simp [maxLen,F4] <;> omega)
   refine WK [(2,Lz v6),(3,AV.ptr 0 0),(4,AV.ptr 1 0),(6,AV.ptr 2 0),(9,AV.ptr 3 0),(10,AV.fn 42 [AV.ptr 3 0]),(11,AV.slc 4 0 1 v13.length false)] [(0,.cells [Iz v0,Q2 v1,Lz v2]),(1,.cells [Lz v3,Lz v4,Iz v5]),(2,.cells [Iz 0,AV.lst true true (List.map AaC.av ([] : List AaC))]),(3,.cells [Iz v12,AV.lst true true (List.map AaC.av ([] : List AaC))]),(4,Ci v13)] 5 (by simp [F4]) (by simp [F4]) ?_;refine AW.frz 4 (o:=Ci v13) (by simp [F4]) rfl [(11,Lz v13)] [] ⟨(.l (by simp) (by simp) (by simp) (by simp)),trivial⟩ trivial ?_;refine WK [(2,Lz v6),(3,AV.ptr 0 0),(4,AV.ptr 1 0),(6,AV.ptr 2 0),(9,AV.ptr 3 0),(10,AV.fn 42 [AV.ptr 3 0]),(11,Lz v13)] [(0,.cells [Iz v0,Q2 v1,Lz v2]),(1,.cells [Lz v3,Lz v4,Iz v5]),(2,.cells [Iz 0,AV.lst true true (List.map AaC.av ([] : List AaC))]),(3,.cells [Iz v12,AV.lst true true (List.map AaC.av ([] : List AaC))])] 5 (by simp [F4]) (by simp [F4]) ?_;refine AW.seq fun K416 hK416=>?_;refine SQ [] [none,none,none,none] fun _ _ g r=>?_;try simp [F4]
   and_intros <;> first | exact GK g | apply r | omega | (simp [maxLen,F4] <;> omega)
   refine WK [(2,Lz v6),(3,AV.ptr 0 0),(4,AV.ptr 1 0),(6,AV.ptr 2 0),(9,AV.ptr 3 0),(10,AV.fn 42 [AV.ptr 3 0]),(11,Lz v13),(43,Lz v3),(44,Iz (v3.length : Int)),(45,Iz 0)] [(0,.cells [Iz v0,Q2 v1,Lz v2]),(1,.cells [Lz v3,Lz v4,Iz v5]),(2,.cells [Iz 0,AV.lst true true (List.map AaC.av ([] : List AaC))]),(3,.cells [Iz v12,AV.lst true true (List.map AaC.av ([] : List AaC))])] 5 (by simp [F4]) (by simp [F4]) ?_;refine AW.block ?_;refine AW.ownC 2 1 3 true (cs:=[Iz 0,AV.lst true true (List.map AaC.av ([] : List AaC))]) (by simp [F4]) (by simp) ?_;refine AW.ownC 3 1 3 true (cs:=[Iz v12,AV.lst true true (List.map AaC.av ([] : List AaC))]) (by simp [F4]) (by simp) ?_;refine RM h0 [(0,0),(1,1),(2,2),(3,5),(4,3),(5,6)] [(2,Lz v6),(3,AV.ptr 0 0),(4,AV.ptr 1 0),(6,AV.ptr 2 0),(9,AV.ptr 4 0),(10,AV.fn 42 [AV.ptr 4 0]),(11,Lz v13),(43,Lz v3),(44,Iz (v3.length : Int)),(45,Iz 0)] [(0,.cells [Iz v0,Q2 v1,Lz v2]),(1,.cells [Lz v3,Lz v4,Iz v5]),(2,.cells [Iz 0,AV.slc 3 0 3 (([] : List AaC).length) false]),(3,.grow (AaL (List.map AaC.av ([] : List AaC)))),(4,.cells [Iz v12,AV.slc 5 0 3 (([] : List AaC).length) false]),(5,.grow (AaL (List.map AaC.av ([] : List AaC))))] 6 (by simp [F4]) (by simp [F4]) ?_;refine AW.loopF (α:=(Int×(List AaC))) (fun n (v14,v15)=>AaN.L1 k v0 v1 v2 v3 v5 v6 v12 v13 n v14 v15=some (v7,v8,v9)) (fun (v14,v15)=>[(2,Lz v6),(3,AV.ptr 0 0),(4,AV.ptr 1 0),(6,AV.ptr 2 0),(9,AV.ptr 4 0),(10,AV.fn 42 [AV.ptr 4 0]),(11,Lz v13),(43,Lz v3),(44,Iz (v3.length : Int)),(45,Iz v14)]) (fun (v14,v15)=>[(0,.cells [Iz v0,Q2 v1,Lz v2]),(1,.cells [Lz v3,Lz v4,Iz v5]),(2,.cells [Iz 0,AV.slc 3 0 3 (([] : List AaC).length) false]),(3,.grow (AaL (List.map AaC.av ([] : List AaC)))),(4,.cells [Iz v12,AV.slc 5 0 3 v15.length false]),(5,.grow (AaL (List.map AaC.av v15)))]) 6 k ((0,([] : List AaC))) hF (by simp [F4]) (by simp [F4]) (by simp) ?_;rintro (_|n1) ⟨v14,v15⟩ hF K448 hK448
   ·try dsimp only at hF
    rw [AaN.L1] at hF; cases hF
   try dsimp only at hF
   rw [AaN.L1] at hF;refine SQ [] [none] fun _ _ g r=>?_;try simp [F4]
   and_intros <;> first | exact GK g | apply r | omega | (simp [maxLen,F4] <;> omega)
   refine WK [(2,Lz v6),(3,AV.ptr 0 0),(4,AV.ptr 1 0),(6,AV.ptr 2 0),(9,AV.ptr 4 0),(10,AV.fn 42 [AV.ptr 4 0]),(11,Lz v13),(43,Lz v3),(44,Iz (v3.length : Int)),(45,Iz v14),(46,AV.bool (decide (v14<(v3.length : Int))))] [(0,.cells [Iz v0,Q2 v1,Lz v2]),(1,.cells [Lz v3,Lz v4,Iz v5]),(2,.cells [Iz 0,AV.slc 3 0 3 (([] : List AaC).length) false]),(3,.grow (AaL (List.map AaC.av ([] : List AaC)))),(4,.cells [Iz v12,AV.slc 5 0 3 v15.length false]),(5,.grow (AaL (List.map AaC.av v15)))] 6 (by simp [F4]) (by simp [F4]) ?_;refine AW.seq fun K450 hK450=>?_;by_cases h7 : v14<(v3.length : Int)
   ·replace hF:=AaW h7 hF;have h7_:=h7;try simp at h7_
    have F5:=A3 F4 h7 h7_;refine CT (by simp [F5] <;> omega) ?_;refine AW.skip ?_;refine hK450 _ _ _ ?_;refine AW.midF (α:=(List AaC)) (fun v16=>AaN.J2 k v14 (fun v14_ v15_=>AaN.L1 k v0 v1 v2 v3 v5 v6 v12 v13 n1 v14_ v15_) v16=some (v7,v8,v9)) (fun v16=>[(2,Lz v6),(3,AV.ptr 0 0),(4,AV.ptr 1 0),(6,AV.ptr 2 0),(9,AV.ptr 4 0),(10,AV.fn 42 [AV.ptr 4 0]),(11,Lz v13),(43,Lz v3),(44,Iz (v3.length : Int)),(45,Iz v14)]) (fun v16=>[(0,.cells [Iz v0,Q2 v1,Lz v2]),(1,.cells [Lz v3,Lz v4,Iz v5]),(2,.cells [Iz 0,AV.slc 3 0 3 (([] : List AaC).length) false]),(3,.grow (AaL (List.map AaC.av ([] : List AaC)))),(4,.cells [Iz v12,AV.slc 5 0 3 v16.length false]),(5,.grow (AaL (List.map AaC.av v16)))]) 6 (fun K455 hK455=>?_) ?_
    ·refine AW.block ?_;refine SQ [] [none,none,none] fun _ _ g r=>?_;obtain ⟨v17,h8,h9,h10,hF⟩:=AaZ hF;have h10_:=Aao h10;try simp at h10_
     have h9_:=h9;try simp at h9_
     have F6:=A6 F5 h8 h9 h10 h10_ h9_;try simp [F6]
     and_intros <;> first | exact GK g | apply r | omega | (simp [maxLen,F6] <;> omega)
     refine WK [(2,Lz v6),(3,AV.ptr 0 0),(4,AV.ptr 1 0),(6,AV.ptr 2 0),(9,AV.ptr 4 0),(10,AV.fn 42 [AV.ptr 4 0]),(11,Lz v13),(13,Iz v17),(43,Lz v3),(44,Iz (v3.length : Int)),(45,Iz v14)] [(0,.cells [Iz v0,Q2 v1,Lz v2]),(1,.cells [Lz v3,Lz v4,Iz v5]),(2,.cells [Iz 0,AV.slc 3 0 3 (([] : List AaC).length) false]),(3,.grow (AaL (List.map AaC.av ([] : List AaC)))),(4,.cells [Iz v12,AV.slc 5 0 3 v15.length false]),(5,.grow (AaL (List.map AaC.av v15)))] 6 (by simp [F6]) (by simp [F6]) ?_;refine SQ [] [none,none,none,none,none] fun _ _ g r=>?_;obtain ⟨v18,h11,h12,h13,hF⟩:=AaZ hF;have h13_:=Aao h13;try simp at h13_
     have h12_:=h12;try simp at h12_
     have F7:=A6 F6 h11 h12 h13 h13_ h12_;try simp [F7]
     and_intros <;> first | exact GK g | apply r | omega | (simp [maxLen,F7] <;> omega)
     refine WK [(2,Lz v6),(3,AV.ptr 0 0),(4,AV.ptr 1 0),(6,AV.ptr 2 0),(9,AV.ptr 4 0),(10,AV.fn 42 [AV.ptr 4 0]),(11,Lz v13),(13,Iz v17),(43,Lz v3),(44,Iz (v3.length : Int)),(45,Iz v14),(53,AV.bool (decide (0<v18)))] [(0,.cells [Iz v0,Q2 v1,Lz v2]),(1,.cells [Lz v3,Lz v4,Iz v5]),(2,.cells [Iz 0,AV.slc 3 0 3 (([] : List AaC).length) false]),(3,.grow (AaL (List.map AaC.av ([] : List AaC)))),(4,.cells [Iz v12,AV.slc 5 0 3 v15.length false]),(5,.grow (AaL (List.map AaC.av v15)))] 6 (by simp [F7]) (by simp [F7]) ?_;by_cases h14 : 0<v18
     ·replace hF:=AaW h14 hF;have h14_:=h14;try simp at h14_
      have F8:=A3 F7 h14 h14_;refine CT (by simp [F8] <;> omega) ?_;refine RG [] [none,none,none,none,none,none,none,none] fun _ _ g r=>?_;try simp [F8]
      and_intros
      try any_goals first | omega | (simp [maxLen,F8] <;> omega)
      obtain ⟨v19,h15,hF⟩:=AaO hF;refine AC (Ab4 k _ _ h15) (.cons (.same (by simp [F8])) .nil) ?_;try simp [F8]
      and_intros
      try any_goals first | omega | (simp [maxLen,F8] <;> omega)
      obtain ⟨v20,h16,hF⟩:=AaO hF;refine Aa2 (Acb k _ _ _ _ _ _ h16) (by simp) [4,5] [] [4,5] rfl (.cons (.same (by simp [F8])) (.cons (.same (by simp [F8])) (.cons (.same (by simp [F8])) (.cons (.same (by simp [F8])) .nil)))) (by simp [F8]) (by decide) (by simp) (by simp) (.inl rfl) (by simp) (by simp) ?_;try simp [F8]
      and_intros <;> first | exact GK g | apply r | omega | (simp [maxLen,F8] <;> omega)
      refine hK455 _ _ _ ?_;refine RN h0 [(0,0),(1,1),(2,2),(3,3),(4,4),(5,6)] [(2,Lz v6),(3,AV.ptr 0 0),(4,AV.ptr 1 0),(6,AV.ptr 2 0),(9,AV.ptr 4 0),(10,AV.fn 42 [AV.ptr 4 0]),(11,Lz v13),(43,Lz v3),(44,Iz (v3.length : Int)),(45,Iz v14)] [(0,.cells [Iz v0,Q2 v1,Lz v2]),(1,.cells [Lz v3,Lz v4,Iz v5]),(2,.cells [Iz 0,AV.slc 3 0 3 (([] : List AaC).length) false]),(3,.grow (AaL (List.map AaC.av ([] : List AaC)))),(4,.cells [Iz v12,AV.slc 5 0 3 v20.length false]),(5,.grow (AaL (List.map AaC.av v20)))] 6 (by simp [F8]) (by simp [F8]) ?_;exact JN (v20) hF (by simp [F8]) (by simp [F8])
     ·replace hF:=AaX h14 hF;have h14_:=h14;try simp at h14_
      have F9:=A3 F7 h14 h14_;refine CF (by simp [F9] <;> omega) ?_;refine AW.skip ?_;refine hK455 _ _ _ ?_;exact JN (v15) hF (by simp [F9]) (by simp [F9])
    ·rintro v16 hF
     try dsimp only at hF
     unfold AaN.J2 at hF;refine RG [] [none,none] fun _ _ g r=>?_;try simp [F5]
     and_intros <;> first | exact GK g | apply r | omega | (simp [maxLen,F5] <;> omega)
     refine hK448 _ _ _ ?_;exact NX (k':=n1) ((IntKind.wrap .i64 (v14+1),v16)) hF (by simp [F5]) (by simp [F5])
   ·replace hF:=AaX h7 hF;have h7_:=h7;try simp at h7_
    have F10:=A3 F4 h7 h7_;refine CF (by simp [F10] <;> omega) ?_;refine AW.exit ?_;try simp
    refine hK416 _ _ _ ?_;refine AW.seq fun K501 hK501=>?_;refine SQ [] [none,none,none] fun _ _ g r=>?_;try simp [F10]
    and_intros <;> first | exact GK g | apply r | omega | (simp [maxLen,F10] <;> omega)
    refine WK [(2,Lz v6),(3,AV.ptr 0 0),(4,AV.ptr 1 0),(6,AV.ptr 2 0),(9,AV.ptr 4 0),(10,AV.fn 42 [AV.ptr 4 0]),(11,Lz v13),(63,Lz v13),(64,Iz (v13.length : Int)),(65,Iz 0)] [(0,.cells [Iz v0,Q2 v1,Lz v2]),(1,.cells [Lz v3,Lz v4,Iz v5]),(2,.cells [Iz 0,AV.slc 3 0 3 (([] : List AaC).length) false]),(3,.grow (AaL (List.map AaC.av ([] : List AaC)))),(4,.cells [Iz v12,AV.slc 5 0 3 v15.length false]),(5,.grow (AaL (List.map AaC.av v15)))] 6 (by simp [F10]) (by simp [F10]) ?_;refine AW.block ?_;refine AW.loopF (α:=(Int×(List AaC))) (fun n (v21,v22)=>AaN.L3 k v0 v1 v2 v5 v6 v12 v13 n v21 v22=some (v7,v8,v9)) (fun (v21,v22)=>[(2,Lz v6),(3,AV.ptr 0 0),(4,AV.ptr 1 0),(6,AV.ptr 2 0),(9,AV.ptr 4 0),(10,AV.fn 42 [AV.ptr 4 0]),(11,Lz v13),(63,Lz v13),(64,Iz (v13.length : Int)),(65,Iz v21)]) (fun (v21,v22)=>[(0,.cells [Iz v0,Q2 v1,Lz v2]),(1,.cells [Lz v3,Lz v4,Iz v5]),(2,.cells [Iz 0,AV.slc 3 0 3 (([] : List AaC).length) false]),(3,.grow (AaL (List.map AaC.av ([] : List AaC)))),(4,.cells [Iz v12,AV.slc 5 0 3 v22.length false]),(5,.grow (AaL (List.map AaC.av v22)))]) 6 k ((0,v15)) hF (by simp [F10]) (by simp [F10]) (by simp) ?_;rintro (_|n3) ⟨v21,v22⟩ hF K533 hK533
    ·try dsimp only at hF
     rw [AaN.L3] at hF; cases hF
    try dsimp only at hF
    rw [AaN.L3] at hF;refine SQ [] [none] fun _ _ g r=>?_;try simp [F10]
    and_intros <;> first | exact GK g | apply r | omega | (simp [maxLen,F10] <;> omega)
    refine WK [(2,Lz v6),(3,AV.ptr 0 0),(4,AV.ptr 1 0),(6,AV.ptr 2 0),(9,AV.ptr 4 0),(10,AV.fn 42 [AV.ptr 4 0]),(11,Lz v13),(63,Lz v13),(64,Iz (v13.length : Int)),(65,Iz v21),(66,AV.bool (decide (v21<(v13.length : Int))))] [(0,.cells [Iz v0,Q2 v1,Lz v2]),(1,.cells [Lz v3,Lz v4,Iz v5]),(2,.cells [Iz 0,AV.slc 3 0 3 (([] : List AaC).length) false]),(3,.grow (AaL (List.map AaC.av ([] : List AaC)))),(4,.cells [Iz v12,AV.slc 5 0 3 v22.length false]),(5,.grow (AaL (List.map AaC.av v22)))] 6 (by simp [F10]) (by simp [F10]) ?_;refine AW.seq fun K535 hK535=>?_;by_cases h17 : v21<(v13.length : Int)
    ·replace hF:=AaW h17 hF;have h17_:=h17;try simp at h17_
     have F11:=A3 F10 h17 h17_;refine CT (by simp [F11] <;> omega) ?_;refine AW.skip ?_;refine hK535 _ _ _ ?_;refine AW.midF (α:=(List AaC)) (fun v23=>AaN.J4 k v21 (fun v21_ v22_=>AaN.L3 k v0 v1 v2 v5 v6 v12 v13 n3 v21_ v22_) v23=some (v7,v8,v9)) (fun v23=>[(2,Lz v6),(3,AV.ptr 0 0),(4,AV.ptr 1 0),(6,AV.ptr 2 0),(9,AV.ptr 4 0),(10,AV.fn 42 [AV.ptr 4 0]),(11,Lz v13),(63,Lz v13),(64,Iz (v13.length : Int)),(65,Iz v21)]) (fun v23=>[(0,.cells [Iz v0,Q2 v1,Lz v2]),(1,.cells [Lz v3,Lz v4,Iz v5]),(2,.cells [Iz 0,AV.slc 3 0 3 (([] : List AaC).length) false]),(3,.grow (AaL (List.map AaC.av ([] : List AaC)))),(4,.cells [Iz v12,AV.slc 5 0 3 v23.length false]),(5,.grow (AaL (List.map AaC.av v23)))]) 6 (fun K540 hK540=>?_) ?_
     ·refine AW.block ?_;refine SQ [] [none,none,none,none,none] fun _ _ g r=>?_;obtain ⟨v24,h18,h19,h20,hF⟩:=AaZ hF;have h20_:=Aao h20;try simp at h20_
      have h19_:=h19;try simp at h19_
      have F12:=A6 F11 h18 h19 h20 h20_ h19_;try simp [F12]
      and_intros <;> first | exact GK g | apply r | omega | (simp [maxLen,F12] <;> omega)
      refine WK [(2,Lz v6),(3,AV.ptr 0 0),(4,AV.ptr 1 0),(6,AV.ptr 2 0),(9,AV.ptr 4 0),(10,AV.fn 42 [AV.ptr 4 0]),(11,Lz v13),(14,Iz v21),(15,Iz v24),(63,Lz v13),(64,Iz (v13.length : Int)),(65,Iz v21)] [(0,.cells [Iz v0,Q2 v1,Lz v2]),(1,.cells [Lz v3,Lz v4,Iz v5]),(2,.cells [Iz 0,AV.slc 3 0 3 (([] : List AaC).length) false]),(3,.grow (AaL (List.map AaC.av ([] : List AaC)))),(4,.cells [Iz v12,AV.slc 5 0 3 v22.length false]),(5,.grow (AaL (List.map AaC.av v22)))] 6 (by simp [F12]) (by simp [F12]) ?_;refine SQ [] [none,none] fun _ _ g r=>?_;try simp [F12]
      and_intros <;> first | exact GK g | apply r | omega | (simp [maxLen,F12] <;> omega)
      refine WK [(2,Lz v6),(3,AV.ptr 0 0),(4,AV.ptr 1 0),(6,AV.ptr 2 0),(9,AV.ptr 4 0),(10,AV.fn 42 [AV.ptr 4 0]),(11,Lz v13),(14,Iz v21),(15,Iz v24),(63,Lz v13),(64,Iz (v13.length : Int)),(65,Iz v21),(71,AV.bool (decide (0<v24)))] [(0,.cells [Iz v0,Q2 v1,Lz v2]),(1,.cells [Lz v3,Lz v4,Iz v5]),(2,.cells [Iz 0,AV.slc 3 0 3 (([] : List AaC).length) false]),(3,.grow (AaL (List.map AaC.av ([] : List AaC)))),(4,.cells [Iz v12,AV.slc 5 0 3 v22.length false]),(5,.grow (AaL (List.map AaC.av v22)))] 6 (by simp [F12]) (by simp [F12]) ?_;by_cases h21 : 0<v24
      ·replace hF:=AaW h21 hF;have h21_:=h21;try simp at h21_
       have F13:=A3 F12 h21 h21_;refine CT (by simp [F13] <;> omega) ?_;refine RG [] [none,none,none,none,none,none,none,none] fun _ _ g r=>?_;try simp [F13]
       and_intros
       try any_goals first | omega | (simp [maxLen,F13] <;> omega)
       obtain ⟨v25,h22,hF⟩:=AaO hF;refine AC (Ab4 k _ _ h22) (.cons (.same (by simp [F13])) .nil) ?_;try simp [F13]
       and_intros
       try any_goals first | omega | (simp [maxLen,F13] <;> omega)
       obtain ⟨v26,h23,hF⟩:=AaO hF;refine AC (AgJ k _ _ h23) (.cons (.same (by simp [F13])) .nil) ?_;try simp [F13]
       and_intros
       try any_goals first | omega | (simp [maxLen,F13] <;> omega)
       obtain ⟨v27,h24,hF⟩:=AaO hF;refine Aa2 (Acb k _ _ _ _ _ _ h24) (by simp) [4,5] [] [4,5] rfl (.cons (.same (by simp [F13])) (.cons (.same (by simp [F13])) (.cons (.same (by simp [F13])) (.cons (.same (by simp [F13])) .nil)))) (by simp [F13]) (by decide) (by simp) (by simp) (.inl rfl) (by simp) (by simp) ?_;try simp [F13]
       and_intros <;> first | exact GK g | apply r | omega | (simp [maxLen,F13] <;> omega)
       refine hK540 _ _ _ ?_;refine RN h0 [(0,0),(1,1),(2,2),(3,3),(4,4),(5,6)] [(2,Lz v6),(3,AV.ptr 0 0),(4,AV.ptr 1 0),(6,AV.ptr 2 0),(9,AV.ptr 4 0),(10,AV.fn 42 [AV.ptr 4 0]),(11,Lz v13),(63,Lz v13),(64,Iz (v13.length : Int)),(65,Iz v21)] [(0,.cells [Iz v0,Q2 v1,Lz v2]),(1,.cells [Lz v3,Lz v4,Iz v5]),(2,.cells [Iz 0,AV.slc 3 0 3 (([] : List AaC).length) false]),(3,.grow (AaL (List.map AaC.av ([] : List AaC)))),(4,.cells [Iz v12,AV.slc 5 0 3 v27.length false]),(5,.grow (AaL (List.map AaC.av v27)))] 6 (by simp [F13]) (by simp [F13]) ?_;exact JN (v27) hF (by simp [F13]) (by simp [F13])
      ·replace hF:=AaX h21 hF;have h21_:=h21;try simp at h21_
       have F14:=A3 F12 h21 h21_;refine CF (by simp [F14] <;> omega) ?_;refine AW.skip ?_;refine hK540 _ _ _ ?_;exact JN (v22) hF (by simp [F14]) (by simp [F14])
     ·rintro v23 hF
      try dsimp only at hF
      unfold AaN.J4 at hF;refine RG [] [none,none] fun _ _ g r=>?_;try simp [F11]
      and_intros <;> first | exact GK g | apply r | omega | (simp [maxLen,F11] <;> omega)
      refine hK533 _ _ _ ?_;exact NX (k':=n3) ((IntKind.wrap .i64 (v21+1),v23)) hF (by simp [F11]) (by simp [F11])
    ·replace hF:=AaX h17 hF;have h17_:=h17;try simp at h17_
     have F15:=A3 F10 h17 h17_;refine CF (by simp [F15] <;> omega) ?_;refine AW.exit ?_;try simp
     refine hK501 _ _ _ ?_;refine AW.seq fun K586 hK586=>?_;refine SQ [] [none,none,none] fun _ _ g r=>?_;try simp [F15]
     and_intros <;> first | exact GK g | apply r | omega | (simp [maxLen,F15] <;> omega)
     refine WK [(3,AV.ptr 0 0),(4,AV.ptr 1 0),(6,AV.ptr 2 0),(9,AV.ptr 4 0),(10,AV.fn 42 [AV.ptr 4 0]),(11,Lz v13),(81,Lz v6),(82,Iz (v6.length : Int)),(83,Iz 0)] [(0,.cells [Iz v0,Q2 v1,Lz v2]),(1,.cells [Lz v3,Lz v4,Iz v5]),(2,.cells [Iz 0,AV.slc 3 0 3 (([] : List AaC).length) false]),(3,.grow (AaL (List.map AaC.av ([] : List AaC)))),(4,.cells [Iz v12,AV.slc 5 0 3 v22.length false]),(5,.grow (AaL (List.map AaC.av v22)))] 6 (by simp [F15]) (by simp [F15]) ?_;refine AW.block ?_;refine AW.loopF (α:=(Int×(List AaC))) (fun n (v28,v29)=>AaN.L5 k v0 v1 v2 v5 v6 v12 v13 n v28 v29=some (v7,v8,v9)) (fun (v28,v29)=>[(3,AV.ptr 0 0),(4,AV.ptr 1 0),(6,AV.ptr 2 0),(9,AV.ptr 4 0),(10,AV.fn 42 [AV.ptr 4 0]),(11,Lz v13),(81,Lz v6),(82,Iz (v6.length : Int)),(83,Iz v28)]) (fun (v28,v29)=>[(0,.cells [Iz v0,Q2 v1,Lz v2]),(1,.cells [Lz v3,Lz v4,Iz v5]),(2,.cells [Iz 0,AV.slc 3 0 3 (([] : List AaC).length) false]),(3,.grow (AaL (List.map AaC.av ([] : List AaC)))),(4,.cells [Iz v12,AV.slc 5 0 3 v29.length false]),(5,.grow (AaL (List.map AaC.av v29)))]) 6 k ((0,v22)) hF (by simp [F15]) (by simp [F15]) (by simp) ?_;rintro (_|n5) ⟨v28,v29⟩ hF K618 hK618
     ·try dsimp only at hF
      rw [AaN.L5] at hF; cases hF
     try dsimp only at hF
     rw [AaN.L5] at hF;refine SQ [] [none] fun _ _ g r=>?_;try simp [F15]
     and_intros <;> first | exact GK g | apply r | omega | (simp [maxLen,F15] <;> omega)
     refine WK [(3,AV.ptr 0 0),(4,AV.ptr 1 0),(6,AV.ptr 2 0),(9,AV.ptr 4 0),(10,AV.fn 42 [AV.ptr 4 0]),(11,Lz v13),(81,Lz v6),(82,Iz (v6.length : Int)),(83,Iz v28),(84,AV.bool (decide (v28<(v6.length : Int))))] [(0,.cells [Iz v0,Q2 v1,Lz v2]),(1,.cells [Lz v3,Lz v4,Iz v5]),(2,.cells [Iz 0,AV.slc 3 0 3 (([] : List AaC).length) false]),(3,.grow (AaL (List.map AaC.av ([] : List AaC)))),(4,.cells [Iz v12,AV.slc 5 0 3 v29.length false]),(5,.grow (AaL (List.map AaC.av v29)))] 6 (by simp [F15]) (by simp [F15]) ?_;refine AW.seq fun K620 hK620=>?_;by_cases h25 : v28<(v6.length : Int)
     ·replace hF:=AaW h25 hF;have h25_:=h25;try simp at h25_
      have F16:=A3 F15 h25 h25_;refine CT (by simp [F16] <;> omega) ?_;refine AW.skip ?_;refine hK620 _ _ _ ?_;refine AW.midF (α:=(List AaC)) (fun v30=>AaN.J6 k v28 (fun v28_ v29_=>AaN.L5 k v0 v1 v2 v5 v6 v12 v13 n5 v28_ v29_) v30=some (v7,v8,v9)) (fun v30=>[(3,AV.ptr 0 0),(4,AV.ptr 1 0),(6,AV.ptr 2 0),(9,AV.ptr 4 0),(10,AV.fn 42 [AV.ptr 4 0]),(11,Lz v13),(81,Lz v6),(82,Iz (v6.length : Int)),(83,Iz v28)]) (fun v30=>[(0,.cells [Iz v0,Q2 v1,Lz v2]),(1,.cells [Lz v3,Lz v4,Iz v5]),(2,.cells [Iz 0,AV.slc 3 0 3 (([] : List AaC).length) false]),(3,.grow (AaL (List.map AaC.av ([] : List AaC)))),(4,.cells [Iz v12,AV.slc 5 0 3 v30.length false]),(5,.grow (AaL (List.map AaC.av v30)))]) 6 (fun K625 hK625=>?_) ?_
      ·refine AW.block ?_;refine SQ [] [none,none,none] fun _ _ g r=>?_;obtain ⟨v31,h26,h27,h28,hF⟩:=AaZ hF;have h28_:=Aao h28;try simp at h28_
       have h27_:=h27;try simp at h27_
       have F17:=A6 F16 h26 h27 h28 h28_ h27_;try simp [F17]
       and_intros <;> first | exact GK g | apply r | omega | (simp [maxLen,F17] <;> omega)
       refine WK [(3,AV.ptr 0 0),(4,AV.ptr 1 0),(6,AV.ptr 2 0),(9,AV.ptr 4 0),(10,AV.fn 42 [AV.ptr 4 0]),(11,Lz v13),(17,Iz v31),(81,Lz v6),(82,Iz (v6.length : Int)),(83,Iz v28)] [(0,.cells [Iz v0,Q2 v1,Lz v2]),(1,.cells [Lz v3,Lz v4,Iz v5]),(2,.cells [Iz 0,AV.slc 3 0 3 (([] : List AaC).length) false]),(3,.grow (AaL (List.map AaC.av ([] : List AaC)))),(4,.cells [Iz v12,AV.slc 5 0 3 v29.length false]),(5,.grow (AaL (List.map AaC.av v29)))] 6 (by simp [F17]) (by simp [F17]) ?_;refine SQ [] [none,none,none,none,none] fun _ _ g r=>?_;obtain ⟨v32,h29,h30,h31,hF⟩:=AaZ hF;have h31_:=Aao h31;try simp at h31_
       have h30_:=h30;try simp at h30_
       have F18:=A6 F17 h29 h30 h31 h31_ h30_;try simp [F18]
       and_intros <;> first | exact GK g | apply r | omega | (simp [maxLen,F18] <;> omega)
       refine WK [(3,AV.ptr 0 0),(4,AV.ptr 1 0),(6,AV.ptr 2 0),(9,AV.ptr 4 0),(10,AV.fn 42 [AV.ptr 4 0]),(11,Lz v13),(17,Iz v31),(81,Lz v6),(82,Iz (v6.length : Int)),(83,Iz v28),(91,AV.bool (decide (0<v32)))] [(0,.cells [Iz v0,Q2 v1,Lz v2]),(1,.cells [Lz v3,Lz v4,Iz v5]),(2,.cells [Iz 0,AV.slc 3 0 3 (([] : List AaC).length) false]),(3,.grow (AaL (List.map AaC.av ([] : List AaC)))),(4,.cells [Iz v12,AV.slc 5 0 3 v29.length false]),(5,.grow (AaL (List.map AaC.av v29)))] 6 (by simp [F18]) (by simp [F18]) ?_;by_cases h32 : 0<v32
       ·replace hF:=AaW h32 hF;have h32_:=h32;try simp at h32_
        have F19:=A3 F18 h32 h32_;refine CT (by simp [F19] <;> omega) ?_;refine RG [] [none,none,none,none] fun _ _ g r=>?_;try simp [F19]
        and_intros
        try any_goals first | omega | (simp [maxLen,F19] <;> omega)
        obtain ⟨v33,h33,hF⟩:=AaO hF;refine AC (Ab4 k _ _ h33) (.cons (.same (by simp [F19])) .nil) ?_;try simp [F19]
        and_intros
        try any_goals first | omega | (simp [maxLen,F19] <;> omega)
        obtain ⟨v34,h34,hF⟩:=AaO hF;refine Aa2 (Acb k _ _ _ _ _ _ h34) (by simp) [4,5] [] [4,5] rfl (.cons (.same (by simp [F19])) (.cons (.same (by simp [F19])) (.cons (.same (by simp [F19])) (.cons (.same (by simp [F19])) .nil)))) (by simp [F19]) (by decide) (by simp) (by simp) (.inl rfl) (by simp) (by simp) ?_;try simp [F19]
        and_intros <;> first | exact GK g | apply r | omega | (simp [maxLen,F19] <;> omega)
        refine hK625 _ _ _ ?_;refine RN h0 [(0,0),(1,1),(2,2),(3,3),(4,4),(5,6)] [(3,AV.ptr 0 0),(4,AV.ptr 1 0),(6,AV.ptr 2 0),(9,AV.ptr 4 0),(10,AV.fn 42 [AV.ptr 4 0]),(11,Lz v13),(81,Lz v6),(82,Iz (v6.length : Int)),(83,Iz v28)] [(0,.cells [Iz v0,Q2 v1,Lz v2]),(1,.cells [Lz v3,Lz v4,Iz v5]),(2,.cells [Iz 0,AV.slc 3 0 3 (([] : List AaC).length) false]),(3,.grow (AaL (List.map AaC.av ([] : List AaC)))),(4,.cells [Iz v12,AV.slc 5 0 3 v34.length false]),(5,.grow (AaL (List.map AaC.av v34)))] 6 (by simp [F19]) (by simp [F19]) ?_;exact JN (v34) hF (by simp [F19]) (by simp [F19])
       ·replace hF:=AaX h32 hF;have h32_:=h32;try simp at h32_
        have F20:=A3 F18 h32 h32_;refine CF (by simp [F20] <;> omega) ?_;refine AW.skip ?_;refine hK625 _ _ _ ?_;exact JN (v29) hF (by simp [F20]) (by simp [F20])
      ·rintro v30 hF
       try dsimp only at hF
       unfold AaN.J6 at hF;refine RG [] [none,none] fun _ _ g r=>?_;try simp [F16]
       and_intros <;> first | exact GK g | apply r | omega | (simp [maxLen,F16] <;> omega)
       refine hK618 _ _ _ ?_;exact NX (k':=n5) ((IntKind.wrap .i64 (v28+1),v30)) hF (by simp [F16]) (by simp [F16])
     ·replace hF:=AaX h25 hF;have h25_:=h25;try simp at h25_
      have F21:=A3 F15 h25 h25_;refine CF (by simp [F21] <;> omega) ?_;refine AW.exit ?_;try simp
      refine hK586 _ _ _ ?_;refine AW.seq fun K671 hK671=>?_;refine SQ [] [none,none,none,none,none,none,none] fun _ _ g r=>?_;try simp [F21]
      and_intros
      try any_goals first | omega | (simp [maxLen,F21] <;> omega)
      obtain ⟨v35,v36,v37,h35,hF⟩:=Adm hF;refine AC (AeX k _ _ _ _ _ _ _ h35) (.cons (.same (by simp [F21])) (.cons (.same (by simp [F21])) .nil)) ?_;try simp [F21]
      and_intros <;> first | exact GK g | apply r | omega | (simp [maxLen,F21] <;> omega)
      refine WK [(6,AV.ptr 2 0),(9,AV.ptr 4 0),(10,AV.fn 42 [AV.ptr 4 0]),(11,Lz v13),(101,Q2 v36),(102,Iz (v36.length : Int)),(103,Iz 0)] [(2,.cells [Iz 0,AV.slc 3 0 3 (([] : List AaC).length) false]),(3,.grow (AaL (List.map AaC.av ([] : List AaC)))),(4,.cells [Iz v12,AV.slc 5 0 3 v29.length false]),(5,.grow (AaL (List.map AaC.av v29)))] 7 (by simp [F21]) (by simp [F21]) ?_;refine AW.block ?_;refine RM h0 [(0,2),(1,3),(2,4),(3,5)] [(6,AV.ptr 0 0),(9,AV.ptr 2 0),(10,AV.fn 42 [AV.ptr 2 0]),(11,Lz v13),(101,Q2 v36),(102,Iz (v36.length : Int)),(103,Iz 0)] [(0,.cells [Iz 0,AV.slc 1 0 3 (([] : List AaC).length) false]),(1,.grow (AaL (List.map AaC.av ([] : List AaC)))),(2,.cells [Iz v12,AV.slc 3 0 3 v29.length false]),(3,.grow (AaL (List.map AaC.av v29)))] 4 (by simp [F21]) (by simp [F21]) ?_;refine AW.loopF (α:=(Int×(List AaC))) (fun n (v38,v39)=>AaN.L7 k v12 v13 v36 n v38 v39=some (v7,v8,v9)) (fun (v38,v39)=>[(6,AV.ptr 0 0),(9,AV.ptr 2 0),(10,AV.fn 42 [AV.ptr 2 0]),(11,Lz v13),(101,Q2 v36),(102,Iz (v36.length : Int)),(103,Iz v38)]) (fun (v38,v39)=>[(0,.cells [Iz 0,AV.slc 1 0 3 (([] : List AaC).length) false]),(1,.grow (AaL (List.map AaC.av ([] : List AaC)))),(2,.cells [Iz v12,AV.slc 3 0 3 v39.length false]),(3,.grow (AaL (List.map AaC.av v39)))]) 4 k ((0,v29)) hF (by simp [F21]) (by simp [F21]) (by simp) ?_;rintro (_|n7) ⟨v38,v39⟩ hF K703 hK703
      ·try dsimp only at hF
       rw [AaN.L7] at hF; cases hF
      try dsimp only at hF
      rw [AaN.L7] at hF;refine SQ [] [none] fun _ _ g r=>?_;try simp [F21]
      and_intros <;> first | exact GK g | apply r | omega | (simp [maxLen,F21] <;> omega)
      refine WK [(6,AV.ptr 0 0),(9,AV.ptr 2 0),(10,AV.fn 42 [AV.ptr 2 0]),(11,Lz v13),(101,Q2 v36),(102,Iz (v36.length : Int)),(103,Iz v38),(104,AV.bool (decide (v38<(v36.length : Int))))] [(0,.cells [Iz 0,AV.slc 1 0 3 (([] : List AaC).length) false]),(1,.grow (AaL (List.map AaC.av ([] : List AaC)))),(2,.cells [Iz v12,AV.slc 3 0 3 v39.length false]),(3,.grow (AaL (List.map AaC.av v39)))] 4 (by simp [F21]) (by simp [F21]) ?_;refine AW.seq fun K705 hK705=>?_;by_cases h36 : v38<(v36.length : Int)
      ·replace hF:=AaW h36 hF;have h36_:=h36;try simp at h36_
       have F22:=A3 F21 h36 h36_;refine CT (by simp [F22] <;> omega) ?_;refine AW.skip ?_;refine hK705 _ _ _ ?_;refine AW.midF (α:=(List AaC)) (fun v40=>AaN.J8 k v38 (fun v38_ v39_=>AaN.L7 k v12 v13 v36 n7 v38_ v39_) v40=some (v7,v8,v9)) (fun v40=>[(6,AV.ptr 0 0),(9,AV.ptr 2 0),(10,AV.fn 42 [AV.ptr 2 0]),(11,Lz v13),(101,Q2 v36),(102,Iz (v36.length : Int)),(103,Iz v38)]) (fun v40=>[(0,.cells [Iz 0,AV.slc 1 0 3 (([] : List AaC).length) false]),(1,.grow (AaL (List.map AaC.av ([] : List AaC)))),(2,.cells [Iz v12,AV.slc 3 0 3 v40.length false]),(3,.grow (AaL (List.map AaC.av v40)))]) 4 (fun K710 hK710=>?_) ?_
       ·refine AW.block ?_;refine SQ [] [none,none,none,none] fun _ _ g r=>?_;obtain ⟨v41,h37,h38,h39,hF⟩:=AaZ hF;have h39_:=Aao h39;try simp at h39_
        have h38_:=h38;try simp at h38_
        have F23:=A6 F22 h37 h38 h39 h39_ h38_;try simp [F23]
        and_intros <;> first | exact GK g | apply r | omega | (simp [maxLen,F23] <;> omega)
        refine WK [(6,AV.ptr 0 0),(9,AV.ptr 2 0),(10,AV.fn 42 [AV.ptr 2 0]),(11,Lz v13),(19,AV.ptr 4 0),(101,Q2 v36),(102,Iz (v36.length : Int)),(103,Iz v38)] [(0,.cells [Iz 0,AV.slc 1 0 3 (([] : List AaC).length) false]),(1,.grow (AaL (List.map AaC.av ([] : List AaC)))),(2,.cells [Iz v12,AV.slc 3 0 3 v39.length false]),(3,.grow (AaL (List.map AaC.av v39))),(4,.cells [Iz v41.From,Iz v41.To,Iz v41.Level])] 5 (by simp [F23]) (by simp [F23]) ?_;refine SQ [] [none,none,none,none,none,none] fun _ _ g r=>?_;obtain ⟨v42,h40,h41,h42,hF⟩:=AaZ hF;have h42_:=Aao h42;try simp at h42_
        have h41_:=h41;try simp at h41_
        have F24:=A6 F23 h40 h41 h42 h42_ h41_;try simp [F24]
        and_intros <;> first | exact GK g | apply r | omega | (simp [maxLen,F24] <;> omega)
        refine WK [(6,AV.ptr 0 0),(9,AV.ptr 2 0),(10,AV.fn 42 [AV.ptr 2 0]),(11,Lz v13),(19,AV.ptr 4 0),(101,Q2 v36),(102,Iz (v36.length : Int)),(103,Iz v38),(112,AV.bool (decide (0<v42)))] [(0,.cells [Iz 0,AV.slc 1 0 3 (([] : List AaC).length) false]),(1,.grow (AaL (List.map AaC.av ([] : List AaC)))),(2,.cells [Iz v12,AV.slc 3 0 3 v39.length false]),(3,.grow (AaL (List.map AaC.av v39))),(4,.cells [Iz v41.From,Iz v41.To,Iz v41.Level])] 5 (by simp [F24]) (by simp [F24]) ?_;by_cases h43 : 0<v42
        ·replace hF:=AaW h43 hF;have h43_:=h43;try simp at h43_
         have F25:=A3 F24 h43 h43_;refine CT (by simp [F25] <;> omega) ?_;refine RG [] [none,none,none,none,none,none,none,none] fun _ _ g r=>?_;try simp [F25]
         and_intros
         try any_goals first | omega | (simp [maxLen,F25] <;> omega)
         obtain ⟨v43,h44,hF⟩:=AaO hF;refine AC (AgJ k _ _ h44) (.cons (.same (by simp [F25])) .nil) ?_;try simp [F25]
         and_intros
         try any_goals first | omega | (simp [maxLen,F25] <;> omega)
         obtain ⟨v44,h45,hF⟩:=AaO hF;refine AC (Ab4 k _ _ h45) (.cons (.same (by simp [F25])) .nil) ?_;try simp [F25]
         and_intros
         try any_goals first | omega | (simp [maxLen,F25] <;> omega)
         obtain ⟨v45,h46,hF⟩:=AaO hF;refine Aa2 (Acb k _ _ _ _ _ _ h46) (by simp) [2,3] [] [2,3] rfl (.cons (.same (by simp [F25])) (.cons (.same (by simp [F25])) (.cons (.same (by simp [F25])) (.cons (.same (by simp [F25])) .nil)))) (by simp [F25]) (by decide) (by simp) (by simp) (.inl rfl) (by simp) (by simp) ?_;try simp [F25]
         and_intros <;> first | exact GK g | apply r | omega | (simp [maxLen,F25] <;> omega)
         refine hK710 _ _ _ ?_;refine RN h0 [(0,0),(1,1),(2,2),(3,5)] [(6,AV.ptr 0 0),(9,AV.ptr 2 0),(10,AV.fn 42 [AV.ptr 2 0]),(11,Lz v13),(101,Q2 v36),(102,Iz (v36.length : Int)),(103,Iz v38)] [(0,.cells [Iz 0,AV.slc 1 0 3 (([] : List AaC).length) false]),(1,.grow (AaL (List.map AaC.av ([] : List AaC)))),(2,.cells [Iz v12,AV.slc 3 0 3 v45.length false]),(3,.grow (AaL (List.map AaC.av v45)))] 4 (by simp [F25]) (by simp [F25]) ?_;exact JN (v45) hF (by simp [F25]) (by simp [F25])
        ·replace hF:=AaX h43 hF;have h43_:=h43;try simp at h43_
         have F26:=A3 F24 h43 h43_;refine CF (by simp [F26] <;> omega) ?_;refine AW.skip ?_;refine hK710 _ _ _ ?_;refine RN h0 [(0,0),(1,1),(2,2),(3,3)] [(6,AV.ptr 0 0),(9,AV.ptr 2 0),(10,AV.fn 42 [AV.ptr 2 0]),(11,Lz v13),(101,Q2 v36),(102,Iz (v36.length : Int)),(103,Iz v38)] [(0,.cells [Iz 0,AV.slc 1 0 3 (([] : List AaC).length) false]),(1,.grow (AaL (List.map AaC.av ([] : List AaC)))),(2,.cells [Iz v12,AV.slc 3 0 3 v39.length false]),(3,.grow (AaL (List.map AaC.av v39)))] 4 (by simp [F26]) (by simp [F26]) ?_;exact JN (v39) hF (by simp [F26]) (by simp [F26])
       ·rintro v40 hF
        try dsimp only at hF
        unfold AaN.J8 at hF;refine RG [] [none,none] fun _ _ g r=>?_;try simp [F22]
        and_intros <;> first | exact GK g | apply r | omega | (simp [maxLen,F22] <;> omega)
        refine hK703 _ _ _ ?_;exact NX (k':=n7) ((IntKind.wrap .i64 (v38+1),v40)) hF (by simp [F22]) (by simp [F22])
      ·replace hF:=AaX h36 hF;have h36_:=h36;try simp at h36_
       have F27:=A3 F21 h36 h36_;refine CF (by simp [F27] <;> omega) ?_;refine AW.exit ?_;try simp
       refine hK671 _ _ _ ?_;refine SQ [] [none,none,none] fun _ _ g r=>?_;try simp [F27]
       and_intros <;> first | exact GK g | apply r | omega | (simp [maxLen,F27] <;> omega)
       refine RM h0 [(0,3),(1,0)] [(6,AV.ptr 1 0),(7,Iz 0)] [(0,.grow (AaL (List.map AaC.av v39))),(1,.cells [Iz v12,AV.slc 0 0 3 v39.length false])] 2 (by simp [F27]) (by simp [F27]) ?_;simp only [Option.some.injEq,Prod.mk.injEq] at hF;obtain ⟨e0,e1,e2⟩:=hF;subst e0 e1 e2;refine AW.ret (hQ _ _ _ ?_ (AaE ?_)).1
       ·simp [Try.f15,F27]
       ·simp [F27]
theorem Afe (k : Nat) (v0 : Int) (v1 : (List AaC)) (v2 : Int) (hF : Abc k v0 v1=some v2) :
 Aa6 Try.prog 17 [AV.agg [AV.int .i64 v0,Q0 v1]] [] (AV.int .i64 v2) []:=by
 unfold Abc at hF;refine EN Try.func17 ?_;intro c0 w0 Q h0 hQ
 refine WK [(0,AV.agg [Iz v0,Q0 v1])] [] 0 (by simp) (by simp) ?_;refine SQ [] [none,none] fun _ _ g r=>?_;try simp
 and_intros <;> first | exact GK g | apply r | omega | (simp [maxLen] <;> omega)
 refine WK [(1,AV.ptr 0 0)] [(0,.cells [Iz v0,Q0 v1])] 1 (by simp) (by simp) ?_;refine AW.seq fun K238 hK238=>?_;refine SQ [] [none,none,none,none,some (8,false),some (8,false),some (8,false),none,none,some (13,false),some (13,false),some (13,false),some (13,false),none] fun _ _ g r=>?_;by_cases h1 : v0<2
 ·replace hF:=AaW h1 hF;have h1_:=h1;try simp at h1_
  try simp [h1,h1_]
  and_intros <;> first | exact GK g | apply r | omega | (simp [h1,h1_,maxLen] <;> omega)
  refine WK [(1,AV.ptr 0 0),(18,AV.bool true)] [(0,.cells [Iz v0,Q0 v1])] 1 (by simp [h1,h1_]) (by simp [h1,h1_]) ?_;refine CT (by simp [h1,h1_]) ?_;refine SQ [] [none] fun _ _ g r=>?_;try simp [h1,h1_]
  and_intros <;> first | exact GK g | apply r | omega | (simp [h1,h1_,maxLen] <;> omega)
  refine WK [(2,Iz 16)] [] 1 (by simp [h1,h1_]) (by simp [h1,h1_]) ?_;simp only [Option.some.injEq] at hF;subst hF;refine AW.ret (hQ _ _ _ ?_ (AaE ?_)).1
  ·simp [Try.f17,h1,h1_]
  ·simp [h1,h1_]
 ·replace hF:=AaX h1 hF;have h1_:=h1;try simp at h1_
  by_cases h2 : 130<v0
  ·replace hF:=AaW h2 hF;have h2_:=h2;try simp at h2_
   have F1:=A4 h1 h1_ h2 h2_;try simp [F1]
   and_intros <;> first | exact GK g | apply r | omega | (simp [maxLen,F1] <;> omega)
   refine WK [(1,AV.ptr 0 0),(18,AV.bool true)] [(0,.cells [Iz v0,Q0 v1])] 1 (by simp [F1]) (by simp [F1]) ?_;refine CT (by simp [F1]) ?_;refine SQ [] [none] fun _ _ g r=>?_;try simp [F1]
   and_intros <;> first | exact GK g | apply r | omega | (simp [maxLen,F1] <;> omega)
   refine WK [(2,Iz 16)] [] 1 (by simp [F1]) (by simp [F1]) ?_;simp only [Option.some.injEq] at hF;subst hF;refine AW.ret (hQ _ _ _ ?_ (AaE ?_)).1
   ·simp [Try.f17,F1]
   ·simp [F1]
  ·replace hF:=AaX h2 hF;have h2_:=h2;try simp at h2_
   have F2:=A4 h1 h1_ h2 h2_;try simp [F2]
   and_intros <;> first | exact GK g | apply r | omega | (simp [maxLen,F2] <;> omega)
   refine WK [(1,AV.ptr 0 0),(18,AV.bool (decide (1200<(v1.length : Int))))] [(0,.cells [Iz v0,Q0 v1])] 1 (by simp [F2]) (by simp [F2]) ?_;by_cases h3 : 1200<(v1.length : Int)
   ·replace hF:=AaW h3 hF;have h3_:=h3;try simp at h3_
    have F3:=A3 F2 h3 h3_;refine CT (by simp [F3] <;> omega) ?_;refine SQ [] [none] fun _ _ g r=>?_;try simp [F3]
    and_intros <;> first | exact GK g | apply r | omega | (simp [maxLen,F3] <;> omega)
    refine WK [(2,Iz 16)] [] 1 (by simp [F3]) (by simp [F3]) ?_;simp only [Option.some.injEq] at hF;subst hF;refine AW.ret (hQ _ _ _ ?_ (AaE ?_)).1
    ·simp [Try.f17,F3]
    ·simp [F3]
   ·replace hF:=AaX h3 hF;have h3_:=h3;try simp at h3_
    have F4:=A3 F2 h3 h3_;refine CF (by simp [F4] <;> omega) ?_;refine AW.skip ?_;refine hK238 _ _ _ ?_;refine AW.seq fun K353 hK353=>?_;refine SQ [] [none] fun _ _ g r=>?_;try simp [F4]
    and_intros <;> first | exact GK g | apply r | omega | (simp [maxLen,F4] <;> omega)
    refine WK [(1,AV.ptr 0 0),(3,Iz 0)] [(0,.cells [Iz v0,Q0 v1])] 1 (by simp [F4]) (by simp [F4]) ?_;refine AW.block ?_;refine AW.loopF (α:=Int) (fun n v3=>Abc.L1 k v0 v1 n v3=some v2) (fun v3=>[(1,AV.ptr 0 0),(3,Iz v3)]) (fun v3=>[(0,.cells [Iz v0,Q0 v1])]) 1 k (0) hF (by simp [F4]) (by simp [F4]) (by simp) ?_;rintro (_|n1) v3 hF K436 hK436
    ·try dsimp only at hF
     rw [Abc.L1] at hF; cases hF
    try dsimp only at hF
    rw [Abc.L1] at hF;refine AW.seq fun K438 hK438=>?_;refine SQ [] [none,none,none,none,none] fun _ _ g r=>?_;try simp [F4]
    and_intros <;> first | exact GK g | apply r | omega | (simp [maxLen,F4] <;> omega)
    refine WK [(1,AV.ptr 0 0),(3,Iz v3),(23,AV.bool (decide (v3<(v1.length : Int))))] [(0,.cells [Iz v0,Q0 v1])] 1 (by simp [F4]) (by simp [F4]) ?_;by_cases h4 : v3<(v1.length : Int)
    ·replace hF:=AaW h4 hF;have h4_:=h4;try simp at h4_
     have F5:=A3 F4 h4 h4_;refine CT (by simp [F5] <;> omega) ?_;refine AW.skip ?_;refine hK438 _ _ _ ?_;refine AW.seq fun K451 hK451=>?_;refine AW.block ?_;refine SQ [] [none,none,none,none,none,none,none] fun _ _ g r=>?_;obtain ⟨v4,h5,h6,h7,hF⟩:=AaZ hF;have h7_:=Aao h7;try simp at h7_
     have h6_:=h6;try simp at h6_
     have F6:=A6 F5 h5 h6 h7 h7_ h6_;try simp [F6]
     and_intros <;> first | exact GK g | apply r | omega | (simp [maxLen,F6] <;> omega)
     refine WK [(1,AV.ptr 0 0),(3,Iz v3),(4,AV.ptr 1 0)] [(0,.cells [Iz v0,Q0 v1]),(1,.cells [Iz v4.From,Iz v4.To,Iz v4.Cap])] 2 (by simp [F6]) (by simp [F6]) ?_;refine SQ [] [none,none,none,none,some (34,false),some (34,false),some (34,false),some (34,false),some (34,false),none,none,some (41,false),some (41,false),some (41,false),none,none,some (46,false),some (46,false),some (46,false),some (46,false),some (46,false),none,none,some (53,false),some (53,false),some (53,false),some (53,false),some (53,false),none,none,some (60,false),some (60,false),some (60,false),none,none,some (65,false),some (65,false),some (65,false),none,none,some (70,false),some (70,false),some (70,false),none,none,some (75,false),some (75,false),some (75,false),none] fun _ _ g r=>?_;by_cases h8 : v4.From<0
     ·replace hF:=AaW h8 hF;have h8_:=h8;try simp at h8_
      have F7:=A3 F6 h8 h8_;try simp [F7]
      and_intros <;> first | exact GK g | apply r | omega | (simp [maxLen,F7] <;> omega)
      refine WK [(1,AV.ptr 0 0),(3,Iz v3),(79,AV.bool true)] [(0,.cells [Iz v0,Q0 v1])] 2 (by simp [F7]) (by simp [F7]) ?_;refine CT (by simp [F7]) ?_;refine SQ [] [none] fun _ _ g r=>?_;try simp [F7]
      and_intros <;> first | exact GK g | apply r | omega | (simp [maxLen,F7] <;> omega)
      refine WK [(2,Iz 16)] [] 2 (by simp [F7]) (by simp [F7]) ?_;simp only [Option.some.injEq] at hF;subst hF;refine AW.ret (hQ _ _ _ ?_ (AaE ?_)).1
      ·simp [Try.f17,F7]
      ·simp [F7]
     ·replace hF:=AaX h8 hF;have h8_:=h8;try simp at h8_
      by_cases h9 : v0≤v4.From
      ·replace hF:=AaW h9 hF;have h9_:=h9;try simp at h9_
       have F8:=A5 F6 h8 h8_ h9 h9_;try simp [F8]
       and_intros <;> first | exact GK g | apply r | omega | (simp [maxLen,F8] <;> omega)
       refine WK [(1,AV.ptr 0 0),(3,Iz v3),(79,AV.bool true)] [(0,.cells [Iz v0,Q0 v1])] 2 (by simp [F8]) (by simp [F8]) ?_;refine CT (by simp [F8]) ?_;refine SQ [] [none] fun _ _ g r=>?_;try simp [F8]
       and_intros <;> first | exact GK g | apply r | omega | (simp [maxLen,F8] <;> omega)
       refine WK [(2,Iz 16)] [] 2 (by simp [F8]) (by simp [F8]) ?_;simp only [Option.some.injEq] at hF;subst hF;refine AW.ret (hQ _ _ _ ?_ (AaE ?_)).1
       ·simp [Try.f17,F8]
       ·simp [F8]
      ·replace hF:=AaX h9 hF;have h9_:=h9;try simp at h9_
       by_cases h10 : v4.To<0
       ·replace hF:=AaW h10 hF;have h10_:=h10;try simp at h10_
        have F9:=A7 F6 h8 h8_ h9 h9_ h10 h10_;try simp [F9]
        and_intros <;> first | exact GK g | apply r | omega | (simp [maxLen,F9] <;> omega)
        refine WK [(1,AV.ptr 0 0),(3,Iz v3),(79,AV.bool true)] [(0,.cells [Iz v0,Q0 v1])] 2 (by simp [F9]) (by simp [F9]) ?_;refine CT (by simp [F9]) ?_;refine SQ [] [none] fun _ _ g r=>?_;try simp [F9]
        and_intros <;> first | exact GK g | apply r | omega | (simp [maxLen,F9] <;> omega)
        refine WK [(2,Iz 16)] [] 2 (by simp [F9]) (by simp [F9]) ?_;simp only [Option.some.injEq] at hF;subst hF;refine AW.ret (hQ _ _ _ ?_ (AaE ?_)).1
        ·simp [Try.f17,F9]
        ·simp [F9]
       ·replace hF:=AaX h10 hF;have h10_:=h10;try simp at h10_
        by_cases h11 : v0≤v4.To
        ·replace hF:=AaW h11 hF;have h11_:=h11;try simp at h11_
         have F10:=A9 F6 h8 h8_ h9 h9_ h10 h10_ h11 h11_;try simp [F10]
         and_intros <;> first | exact GK g | apply r | omega | (simp [maxLen,F10] <;> omega)
         refine WK [(1,AV.ptr 0 0),(3,Iz v3),(79,AV.bool true)] [(0,.cells [Iz v0,Q0 v1])] 2 (by simp [F10]) (by simp [F10]) ?_;refine CT (by simp [F10]) ?_;refine SQ [] [none] fun _ _ g r=>?_;try simp [F10]
         and_intros <;> first | exact GK g | apply r | omega | (simp [maxLen,F10] <;> omega)
         refine WK [(2,Iz 16)] [] 2 (by simp [F10]) (by simp [F10]) ?_;simp only [Option.some.injEq] at hF;subst hF;refine AW.ret (hQ _ _ _ ?_ (AaE ?_)).1
         ·simp [Try.f17,F10]
         ·simp [F10]
        ·replace hF:=AaX h11 hF;have h11_:=h11;try simp at h11_
         by_cases h12 : v4.From=v4.To
         ·replace hF:=AaW h12 hF;have h12q : v4.From=v4.To:=h12;have h12_:=Abn h12q;have h12__:=Abm h12q;have F11:=A9 F6 h8 h8_ h9 h9_ h10 h10_ h11 (A3 h11_ h12_ h12__);try simp [F11]
          and_intros <;> first | exact GK g | apply r | omega | (simp [maxLen,F11] <;> omega)
          refine WK [(1,AV.ptr 0 0),(3,Iz v3),(79,AV.bool true)] [(0,.cells [Iz v0,Q0 v1])] 2 (by simp [F11]) (by simp [F11]) ?_;refine CT (by simp [F11]) ?_;refine SQ [] [none] fun _ _ g r=>?_;try simp [F11]
          and_intros <;> first | exact GK g | apply r | omega | (simp [maxLen,F11] <;> omega)
          refine WK [(2,Iz 16)] [] 2 (by simp [F11]) (by simp [F11]) ?_;simp only [Option.some.injEq] at hF;subst hF;refine AW.ret (hQ _ _ _ ?_ (AaE ?_)).1
          ·simp [Try.f17,F11]
          ·simp [F11]
         ·replace hF:=AaX h12 hF;have h12_:=Abj h12;have h12__:=Abk h12;by_cases h13 : v4.To=0
          ·replace hF:=AaW h13 hF;have h13q : v4.To=0:=h13;have h13_:=Abn h13q;have h13__:=Abm h13q;have h13_h10:=h10;rw [h13q] at h13_h10;have h13_h11:=h11;rw [h13q] at h13_h11;have h13__h12:=h12_;rw [h13q] at h13__h12;have h13___h12:=h12__;rw [h13q] at h13___h12;have F12:=A9 F6 h8 h8_ h9 h9_ h10 h10_ h11 (A9 h11_ h12 h12_ h12__ h13_ h13__ h13q h13_h10 (A3 h13_h11 h13__h12 h13___h12));try simp [F12]
           and_intros <;> first | exact GK g | apply r | omega | (simp [maxLen,F12] <;> omega)
           refine WK [(1,AV.ptr 0 0),(3,Iz v3),(79,AV.bool true)] [(0,.cells [Iz v0,Q0 v1])] 2 (by simp [F12]) (by simp [F12]) ?_;refine CT (by simp [F12]) ?_;refine SQ [] [none] fun _ _ g r=>?_;try simp [F12]
           and_intros <;> first | exact GK g | apply r | omega | (simp [maxLen,F12] <;> omega)
           refine WK [(2,Iz 16)] [] 2 (by simp [F12]) (by simp [F12]) ?_;simp only [Option.some.injEq] at hF;subst hF;refine AW.ret (hQ _ _ _ ?_ (AaE ?_)).1
           ·simp [Try.f17,F12]
           ·simp [F12]
          ·replace hF:=AaX h13 hF;have h13_:=Abj h13;have h13__:=Abk h13;by_cases h14 : v4.From=1
           ·replace hF:=AaW h14 hF;have h14q : v4.From=1:=h14;have h14_:=Abn h14q;have h14__:=Abm h14q;have h14_h8:=h8;rw [h14q] at h14_h8;have h14_h9:=h9;rw [h14q] at h14_h9;have h14__h12:=h12_;rw [h14q] at h14__h12;have h14___h12:=h12__;rw [h14q] at h14___h12;have F13:=A9 F6 h8 h8_ h9 h9_ h10 h10_ h11 (A9 h11_ h12 h12_ h12__ h13 h13_ h13__ h14_ (A6 h14__ h14q h14_h8 h14_h9 h14__h12 h14___h12));try simp [F13]
            and_intros <;> first | exact GK g | apply r | omega | (simp [maxLen,F13] <;> omega)
            refine WK [(1,AV.ptr 0 0),(3,Iz v3),(79,AV.bool true)] [(0,.cells [Iz v0,Q0 v1])] 2 (by simp [F13]) (by simp [F13]) ?_;refine CT (by simp [F13]) ?_;refine SQ [] [none] fun _ _ g r=>?_;try simp [F13]
            and_intros <;> first | exact GK g | apply r | omega | (simp [maxLen,F13] <;> omega)
            refine WK [(2,Iz 16)] [] 2 (by simp [F13]) (by simp [F13]) ?_;simp only [Option.some.injEq] at hF;subst hF;refine AW.ret (hQ _ _ _ ?_ (AaE ?_)).1
            ·simp [Try.f17,F13]
            ·simp [F13]
           ·replace hF:=AaX h14 hF;have h14_:=Abj h14;have h14__:=Abk h14;by_cases h15 : v4.Cap<0
            ·replace hF:=AaW h15 hF;have h15_:=h15;try simp at h15_
             have F14:=A9 F6 h8 h8_ h9 h9_ h10 h10_ h11 (A9 h11_ h12 h12_ h12__ h13 h13_ h13__ h14 (A4 h14_ h14__ h15 h15_));try simp [F14]
             and_intros <;> first | exact GK g | apply r | omega | (simp [maxLen,F14] <;> omega)
             refine WK [(1,AV.ptr 0 0),(3,Iz v3),(79,AV.bool true)] [(0,.cells [Iz v0,Q0 v1])] 2 (by simp [F14]) (by simp [F14]) ?_;refine CT (by simp [F14]) ?_;refine SQ [] [none] fun _ _ g r=>?_;try simp [F14]
             and_intros <;> first | exact GK g | apply r | omega | (simp [maxLen,F14] <;> omega)
             refine WK [(2,Iz 16)] [] 2 (by simp [F14]) (by simp [F14]) ?_;simp only [Option.some.injEq] at hF;subst hF;refine AW.ret (hQ _ _ _ ?_ (AaE ?_)).1
             ·simp [Try.f17,F14]
             ·simp [F14]
            ·replace hF:=AaX h15 hF;have h15_:=h15;try simp at h15_
             have F15:=A9 F6 h8 h8_ h9 h9_ h10 h10_ h11 (A9 h11_ h12 h12_ h12__ h13 h13_ h13__ h14 (A4 h14_ h14__ h15 h15_));try simp [F15]
             and_intros <;> first | exact GK g | apply r | omega | (simp [maxLen,F15] <;> omega)
             refine WK [(1,AV.ptr 0 0),(3,Iz v3),(79,AV.bool (decide (1048576<v4.Cap)))] [(0,.cells [Iz v0,Q0 v1])] 2 (by simp [F15]) (by simp [F15]) ?_;by_cases h16 : 1048576<v4.Cap
             ·replace hF:=AaW h16 hF;have h16_:=h16;try simp at h16_
              have F16:=A3 F15 h16 h16_;refine CT (by simp [F16] <;> omega) ?_;refine SQ [] [none] fun _ _ g r=>?_;try simp [F16]
              and_intros <;> first | exact GK g | apply r | omega | (simp [maxLen,F16] <;> omega)
              refine WK [(2,Iz 16)] [] 2 (by simp [F16]) (by simp [F16]) ?_;simp only [Option.some.injEq] at hF;subst hF;refine AW.ret (hQ _ _ _ ?_ (AaE ?_)).1
              ·simp [Try.f17,F16]
              ·simp [F16]
             ·replace hF:=AaX h16 hF;have h16_:=h16;try simp at h16_
              have F17:=A3 F15 h16 h16_;refine CF (by simp [F17] <;> omega) ?_;refine AW.skip ?_;refine hK451 _ _ _ ?_;refine RG [] [none,none,none] fun _ _ g r=>?_;try simp [F17]
              and_intros <;> first | exact GK g | apply r | omega | (simp [maxLen,F17] <;> omega)
              refine hK436 _ _ _ ?_;refine RN h0 [(0,0)] [(1,AV.ptr 0 0),(3,Iz (IntKind.wrap .i64 (v3+1)))] [(0,.cells [Iz v0,Q0 v1])] 1 (by simp [F17]) (by simp [F17]) ?_;exact NX (k':=n1) (IntKind.wrap .i64 (v3+1)) hF (by simp [F17]) (by simp [F17])
    ·replace hF:=AaX h4 hF;have h4_:=h4;try simp at h4_
     have F18:=A3 F4 h4 h4_;refine CF (by simp [F18] <;> omega) ?_;refine AW.exit ?_;try simp
     refine hK353 _ _ _ ?_;refine SQ [] [none] fun _ _ g r=>?_;try simp [F18]
     and_intros <;> first | exact GK g | apply r | omega | (simp [maxLen,F18] <;> omega)
     refine WK [(2,Iz 0)] [] 1 (by simp [F18]) (by simp [F18]) ?_;simp only [Option.some.injEq] at hF;subst hF;refine AW.ret (hQ _ _ _ ?_ (AaE ?_)).1
     ·simp [Try.f17,F18]
     ·simp [F18]
abbrev Ace  : Aat := .cells [Iz 0,AV.slc 2 0 3 (([] : List AaA).length) false,AV.lst true true (List.map (AV.int .i64) ([] : List Int))]
abbrev Aci  : Aat := .cells [Iz 0,AV.lst true true (List.map AaA.av ([] : List AaA)),AV.lst true true (List.map (AV.int .i64) ([] : List Int))]
theorem Ah0 (k : Nat) (v0 : Int) (v1 : (List AaA)) (v2 : (List Int)) (v3 : Int) (v4 : Int) (v5 : (List AaA)) (v6 : (List Int)) (hF : AbA k v0 v1 v2 v3=some (v4,v5,v6)) :
 Aa6 Try.prog 49 [AV.agg [AV.int .i64 v0,Q2 v1,AV.lst false false (List.map (AV.int .i64) v2)],AV.int .i64 v3] [] (AV.agg [AV.int .i64 v4,AV.slc 0 0 3 v5.length false,AV.lst false false (List.map (AV.int .i64) v6)]) [some (.grow (AaL (List.map AaA.av v5)))]:=by
 unfold AbA at hF;refine EN Try.func49 ?_;intro c0 w0 Q h0 hQ
 refine WK [(0,AV.agg [Iz v0,Q2 v1,Lz v2]),(1,Iz v3)] [] 0 (by simp) (by simp) ?_;refine SQ [] [none,none] fun _ _ g r=>?_;try simp
 and_intros <;> first | exact GK g | apply r | omega | (simp [maxLen] <;> omega)
 refine WK [(1,Iz v3),(2,AV.ptr 0 0),(4,AV.ptr 1 0)] [(0,.cells [Iz v0,Q2 v1,Lz v2]),(1,Aci )] 2 (by simp) (by simp) ?_;refine SQ [] [none,none,none,none] fun _ _ g r=>?_;try simp
 and_intros
 try any_goals first | omega | (simp [maxLen] <;> omega)
 obtain ⟨v7,v8,v9,h1,hF⟩:=Adm hF;refine AC (AfF k _ _ _ _ _ _ h1) (.cons (.same (by simp)) .nil) ?_;try simp
 and_intros <;> first | exact GK g | apply r | omega | (simp [maxLen] <;> omega)
 refine WK [(1,Iz v3),(2,AV.ptr 0 0),(4,AV.ptr 1 0),(5,AV.ptr 4 0)] [(0,.cells [Iz v0,Q2 v1,Lz v2]),(1,Aci ),(2,.grow (AaL (List.map AaA.av v8))),(3,Gi v9),(4,.cells [Iz v7,AV.slc 2 0 3 v8.length false,AV.slc 3 0 1 v9.length false])] 5 (by simp) (by simp) ?_;refine AW.frz 3 (o:=Gi v9) (by simp) rfl [] [(4,.cells [Iz v7,AV.slc 2 0 3 v8.length false,Lz v9])] trivial ⟨⟨by simp,Aat.cells [Iz v7,AV.slc 2 0 3 v8.length false,AV.slc 3 0 1 v9.length false],by simp,(.mk (.cons (.same _) (.cons (.same _) (.cons (.l (by simp) (by simp) (by simp) (by simp)) .nil))))⟩,trivial⟩ ?_;refine WK [(1,Iz v3),(2,AV.ptr 0 0),(4,AV.ptr 1 0),(5,AV.ptr 4 0)] [(0,.cells [Iz v0,Q2 v1,Lz v2]),(1,Aci ),(2,.grow (AaL (List.map AaA.av v8))),(4,.cells [Iz v7,AV.slc 2 0 3 v8.length false,Lz v9])] 5 (by simp) (by simp) ?_;refine SQ [] [none,none] fun _ _ g r=>?_;try simp
 and_intros <;> first | exact GK g | apply r | omega | (simp [maxLen] <;> omega)
 refine WK [(1,Iz v3),(2,AV.ptr 0 0),(4,AV.ptr 1 0),(5,AV.ptr 4 0)] [(0,.cells [Iz v0,Q2 v1,Lz v2]),(1,Aci ),(4,.cells [Iz v7,AV.lst true true (List.map AaA.av ([] : List AaA)),Lz v9])] 5 (by simp) (by simp) ?_;refine AW.seq fun K123 hK123=>?_;refine SQ [] [none] fun _ _ g r=>?_;try simp
 and_intros <;> first | exact GK g | apply r | omega | (simp [maxLen] <;> omega)
 refine WK [(1,Iz v3),(2,AV.ptr 0 0),(4,AV.ptr 1 0),(5,AV.ptr 4 0),(6,Iz 0)] [(0,.cells [Iz v0,Q2 v1,Lz v2]),(1,Aci ),(4,.cells [Iz v7,AV.lst true true (List.map AaA.av ([] : List AaA)),Lz v9])] 5 (by simp) (by simp) ?_;refine AW.block ?_;refine AW.ownC 1 1 3 true (cs:=[Iz 0,AV.lst true true (List.map AaA.av ([] : List AaA)),AV.lst true true (List.map (AV.int .i64) ([] : List Int))]) (by simp) (by simp) ?_;refine AW.ownC 4 1 3 true (cs:=[Iz v7,AV.lst true true (List.map AaA.av ([] : List AaA)),Lz v9]) (by simp) (by simp) ?_;refine RM h0 [(0,0),(1,1),(2,5),(3,4),(4,6)] [(1,Iz v3),(2,AV.ptr 0 0),(4,AV.ptr 1 0),(5,AV.ptr 3 0),(6,Iz 0)] [(0,.cells [Iz v0,Q2 v1,Lz v2]),(1,Ace ),(2,.grow (AaL (List.map AaA.av ([] : List AaA)))),(3,.cells [Iz v7,AV.slc 4 0 3 (([] : List AaA).length) false,Lz v9]),(4,.grow (AaL (List.map AaA.av ([] : List AaA))))] 5 (by simp) (by simp) ?_;refine AW.loopF (α:=(Int×(List AaA))) (fun n (v10,v11)=>AbA.L1 k v1 v3 v7 v9 n v10 v11=some (v4,v5,v6)) (fun (v10,v11)=>[(1,Iz v3),(2,AV.ptr 0 0),(4,AV.ptr 1 0),(5,AV.ptr 3 0),(6,Iz v10)]) (fun (v10,v11)=>[(0,.cells [Iz v0,Q2 v1,Lz v2]),(1,Ace ),(2,.grow (AaL (List.map AaA.av ([] : List AaA)))),(3,.cells [Iz v7,AV.slc 4 0 3 v11.length false,Lz v9]),(4,.grow (AaL (List.map AaA.av v11)))]) 5 k ((0,([] : List AaA))) hF (by simp) (by simp) (by simp) ?_;rintro (_|n1) ⟨v10,v11⟩ hF K152 hK152
 ·try dsimp only at hF
  rw [AbA.L1] at hF; cases hF
 try dsimp only at hF
 rw [AbA.L1] at hF;refine AW.seq fun K154 hK154=>?_;refine SQ [] [none,none,none,none,none] fun _ _ g r=>?_;try simp
 and_intros <;> first | exact GK g | apply r | omega | (simp [maxLen] <;> omega)
 refine WK [(1,Iz v3),(2,AV.ptr 0 0),(4,AV.ptr 1 0),(5,AV.ptr 3 0),(6,Iz v10),(14,AV.bool (decide (v10<(v1.length : Int))))] [(0,.cells [Iz v0,Q2 v1,Lz v2]),(1,Ace ),(2,.grow (AaL (List.map AaA.av ([] : List AaA)))),(3,.cells [Iz v7,AV.slc 4 0 3 v11.length false,Lz v9]),(4,.grow (AaL (List.map AaA.av v11)))] 5 (by simp) (by simp) ?_;by_cases h2 : v10<(v1.length : Int)
 ·replace hF:=AaW h2 hF;have h2_:=h2;try simp at h2_
  refine CT (by simp [h2,h2_] <;> omega) ?_;refine AW.skip ?_;refine hK154 _ _ _ ?_;refine AW.midF (α:=(List AaA)) (fun v12=>AbA.J2 k v10 (fun v10_ v11_=>AbA.L1 k v1 v3 v7 v9 n1 v10_ v11_) v12=some (v4,v5,v6)) (fun v12=>[(1,Iz v3),(2,AV.ptr 0 0),(4,AV.ptr 1 0),(5,AV.ptr 3 0),(6,Iz v10)]) (fun v12=>[(0,.cells [Iz v0,Q2 v1,Lz v2]),(1,Ace ),(2,.grow (AaL (List.map AaA.av ([] : List AaA)))),(3,.cells [Iz v7,AV.slc 4 0 3 v12.length false,Lz v9]),(4,.grow (AaL (List.map AaA.av v12)))]) 5 (fun K159 hK159=>?_) ?_
  ·refine AW.block ?_;refine SQ [] [none,none,none,none,none,none,none,none] fun _ _ g r=>?_;obtain ⟨v13,h3,h4,h5,hF⟩:=AaZ hF;have h5_:=Aao h5;try simp at h5_
   have h4_:=h4;try simp at h4_
   have F1:=A7 h2 h2_ h3 h4 h5 h5_ h4_;try simp [F1]
   and_intros <;> first | exact GK g | apply r | omega | (simp [maxLen,F1] <;> omega)
   refine WK [(1,Iz v3),(2,AV.ptr 0 0),(4,AV.ptr 1 0),(5,AV.ptr 3 0),(6,Iz v10),(24,AV.bool (decide (v3≤v13.Level)))] [(0,.cells [Iz v0,Q2 v1,Lz v2]),(1,Ace ),(2,.grow (AaL (List.map AaA.av ([] : List AaA)))),(3,.cells [Iz v7,AV.slc 4 0 3 v11.length false,Lz v9]),(4,.grow (AaL (List.map AaA.av v11)))] 5 (by simp [F1]) (by simp [F1]) ?_;by_cases h6 : v3≤v13.Level
   ·replace hF:=AaW h6 hF;have h6_:=h6;try simp at h6_
    have F2:=A3 F1 h6 h6_;refine CT (by simp [F2] <;> omega) ?_;refine RG [] [none,none,none,none,none,none,none,none,none,none,none] fun _ _ g r=>?_;obtain ⟨h7,hF⟩:=AaY hF;have h7_:=h7;try simp at h7_
    have F3:=A2 F2 h7;try simp [F3]
    and_intros <;> first | exact GK g | apply r | omega | (simp [maxLen,F3] <;> omega)
    refine hK159 _ _ _ ?_;refine RN h0 [(0,0),(1,1),(2,2),(3,3),(4,5)] [(1,Iz v3),(2,AV.ptr 0 0),(4,AV.ptr 1 0),(5,AV.ptr 3 0),(6,Iz v10)] [(0,.cells [Iz v0,Q2 v1,Lz v2]),(1,Ace ),(2,.grow (AaL (List.map AaA.av ([] : List AaA)))),(3,.cells [Iz v7,AV.slc 4 0 3 ((v11++([v13] : List AaA)).length) false,Lz v9]),(4,.grow (AaL (List.map AaA.av (v11++([v13] : List AaA)))))] 5 (by simp [F3]) (by simp [F3] <;> omega) ?_;exact JN (v11++([v13] : List AaA)) hF (by simp [F3]) (by simp [F3])
   ·replace hF:=AaX h6 hF;have h6_:=h6;try simp at h6_
    have F4:=A3 F1 h6 h6_;refine CF (by simp [F4] <;> omega) ?_;refine AW.skip ?_;refine hK159 _ _ _ ?_;exact JN (v11) hF (by simp [F4]) (by simp [F4])
  ·rintro v12 hF
   try dsimp only at hF
   unfold AbA.J2 at hF;refine RG [] [none,none,none] fun _ _ g r=>?_;try simp [h2,h2_]
   and_intros <;> first | exact GK g | apply r | omega | (simp [h2,h2_,maxLen] <;> omega)
   refine hK152 _ _ _ ?_;exact NX (k':=n1) ((IntKind.wrap .i64 (v10+1),v12)) hF (by simp [h2,h2_]) (by simp [h2,h2_])
 ·replace hF:=AaX h2 hF;have h2_:=h2;try simp at h2_
  refine CF (by simp [h2,h2_] <;> omega) ?_;refine AW.exit ?_;try simp
  refine hK123 _ _ _ ?_;refine SQ [] [none,none] fun _ _ g r=>?_;try simp [h2,h2_]
  and_intros <;> first | exact GK g | apply r | omega | (simp [h2,h2_,maxLen] <;> omega)
  refine RM h0 [(0,4),(1,1)] [(4,AV.ptr 1 0)] [(0,.grow (AaL (List.map AaA.av v11))),(1,.cells [Iz v7,AV.slc 0 0 3 v11.length false,Lz v9])] 2 (by simp [h2,h2_]) (by simp [h2,h2_]) ?_;simp only [Option.some.injEq,Prod.mk.injEq] at hF;obtain ⟨e0,e1,e2⟩:=hF;subst e0 e1 e2;refine AW.ret (hQ _ _ _ ?_ (AaE ?_)).1
  ·simp [Try.f49,h2,h2_]
  ·simp [h2,h2_]
end Go.TF
