import Derived.Test.YtelffnegemdicaaFzWal28
import Derived.Test.YtelffnegemdicaaFzWal32
import Derived.Test.YtelffnegemdicaaFzWal33
import Derived.Test.YtelffnegemdicaaFzWal29
import Derived.Test.YtelffnegemdicaaFzWal30
import Derived.Test.YtelffnegemdicaaFzWal31
set_option linter.unusedVariables false
set_option linter.unusedSimpArgs false
set_option maxRecDepth 100000
set_option maxHeartbeats 4000000
namespace Go.TF
open Go Go.Abs Go.Proofs Go.Proofs.YtelffnegemdicaaFwT
theorem AhA (k : Nat) (v0 : Int) (v1 : (List AaA)) (v2 : (List Int)) (v3 : (List Int)) (v4 : (List Int)) (hF : Aae k v0 v1 v2 v3=some v4) :
 Aa9 Try.prog 73 [AV.agg [AV.int .i64 v0,Q2 v1,AV.lst false false (List.map (AV.int .i64) v2)],AV.lst false false (List.map (AV.int .i64) v3)] [] (AV.slc 0 0 1 v4.length false) [some (Ci v4)]:=by
 unfold Aae at hF;refine EN Try.func73 ?_;intro c0 w0 Q h0 hQ
 refine WK [(0,AV.agg [Iz v0,Q2 v1,Lz v2]),(1,Lz v3)] [] 0 (by simp) (by simp) ?_;refine SQ [] [none,none,none] fun _ _ g r=>?_;try simp
 and_intros <;> first | exact GK g | apply r | omega | (simp [maxLen] <;> omega)
 refine WK [(2,AV.ptr 0 0),(3,AV.ptr 1 0)] [(0,.cells [Iz v0,Q2 v1,Lz v2]),(1,.cells [Lz v3])] 2 (by simp) (by simp) ?_;refine SQ [] [none,none,none,none,none,none,none] fun _ _ g r=>?_;obtain ⟨v5,h1,hF⟩:=AdV hF;have h1_:=h1;try simp at h1_
 try simp [h1,h1_]
 and_intros
 try any_goals first | omega | (simp [h1,h1_,maxLen] <;> omega)
 obtain ⟨v6,h2,hF⟩:=AaO hF;refine AC (Ad6 k _ _ _ h2) (.cons (Coe.fl (by simp [h1,h1_])) (.cons (.same (by simp [h1,h1_])) .nil)) ?_;try simp [h1,h1_]
 and_intros <;> first | exact GK g | apply r | omega | (simp [h1,h1_,maxLen] <;> omega)
 refine WK [(2,AV.ptr 0 0),(3,AV.ptr 1 0),(5,AV.ptr 3 0)] [(0,.cells [Iz v0,Q2 v1,Lz v2]),(1,.cells [Lz v3]),(2,Ci v6),(3,.cells [AV.slc 2 0 1 v6.length false])] 4 (by simp [h1,h1_]) (by simp [h1,h1_]) ?_;refine SQ [] [none,none,none,none,none] fun _ _ g r=>?_;try simp [h1,h1_]
 and_intros
 try any_goals first | omega | (simp [h1,h1_,maxLen] <;> omega)
 obtain ⟨v7,h3,hF⟩:=AaO hF;refine Aa1 (AfH k _ _ _ _ _ _ h3) (by simp) [0,1] [] [] rfl (.cons (.same (by simp [h1,h1_])) (.cons (.same (by simp [h1,h1_])) .nil)) (by simp [h1,h1_]) (by decide) (by simp) (by simp) (.inl rfl) (by simp) (by simp) ?_;try simp [h1,h1_]
 and_intros <;> first | exact GK g | apply r | omega | (simp [h1,h1_,maxLen] <;> omega)
 refine WK [(2,AV.ptr 0 0),(5,AV.ptr 3 0),(6,AV.slc 4 0 1 v7.length false)] [(0,.cells [Iz v0,Q2 v1,Lz v2]),(2,Ci v6),(3,.cells [AV.slc 2 0 1 v6.length false]),(4,Gi v7)] 5 (by simp [h1,h1_]) (by simp [h1,h1_]) ?_;refine AW.frz 4 (o:=Gi v7) (by simp [h1,h1_]) rfl [(6,Lz v7)] [] ⟨(.l (by simp) (by simp) (by simp) (by simp)),trivial⟩ trivial ?_;refine WK [(2,AV.ptr 0 0),(5,AV.ptr 3 0),(6,Lz v7)] [(0,.cells [Iz v0,Q2 v1,Lz v2]),(2,Ci v6),(3,.cells [AV.slc 2 0 1 v6.length false])] 5 (by simp [h1,h1_]) (by simp [h1,h1_]) ?_;refine AW.seq fun K3315 hK3315=>?_;refine SQ [] [none] fun _ _ g r=>?_;try simp [h1,h1_]
 and_intros <;> first | exact GK g | apply r | omega | (simp [h1,h1_,maxLen] <;> omega)
 refine WK [(2,AV.ptr 0 0),(5,AV.ptr 3 0),(6,Lz v7),(7,Iz 0)] [(0,.cells [Iz v0,Q2 v1,Lz v2]),(2,Ci v6),(3,.cells [AV.slc 2 0 1 v6.length false])] 5 (by simp [h1,h1_]) (by simp [h1,h1_]) ?_;refine AW.block ?_;refine RM h0 [(0,0),(1,3),(2,2)] [(2,AV.ptr 0 0),(5,AV.ptr 1 0),(6,Lz v7),(7,Iz 0)] [(0,.cells [Iz v0,Q2 v1,Lz v2]),(1,.cells [AV.slc 2 0 1 v6.length false]),(2,Ci v6)] 3 (by simp [h1,h1_]) (by simp [h1,h1_]) ?_;refine AW.loopF (α:=((List Int)×Int×(List Int))) (fun n (v8,v9,v10)=>Aae.L1 k v0 v1 v2 n v8 v9 v10=some v4) (fun (v8,v9,v10)=>[(2,AV.ptr 0 0),(5,AV.ptr 1 0),(6,Lz v8),(7,Iz v9)]) (fun (v8,v9,v10)=>[(0,.cells [Iz v0,Q2 v1,Lz v2]),(1,.cells [AV.slc 2 0 1 v10.length false]),(2,Ci v10)]) 3 k ((v7,0,v6)) hF (by simp [h1,h1_]) (by simp [h1,h1_]) (by simp) ?_;rintro (_|n1) ⟨v8,v9,v10⟩ hF K4142 hK4142
 ·try dsimp only at hF
  rw [Aae.L1] at hF; cases hF
 try dsimp only at hF
 rw [Aae.L1] at hF;refine AW.seq fun K4144 hK4144=>?_;refine SQ [] [none,none,none] fun _ _ g r=>?_;try simp [h1,h1_]
 and_intros <;> first | exact GK g | apply r | omega | (simp [h1,h1_,maxLen] <;> omega)
 refine WK [(2,AV.ptr 0 0),(5,AV.ptr 1 0),(6,Lz v8),(7,Iz v9),(22,AV.bool (decide (0<(v8.length : Int))))] [(0,.cells [Iz v0,Q2 v1,Lz v2]),(1,.cells [AV.slc 2 0 1 v10.length false]),(2,Ci v10)] 3 (by simp [h1,h1_]) (by simp [h1,h1_]) ?_;by_cases h4 : 0<(v8.length : Int)
 ·replace hF:=AaX h4 hF;have h4_:=h4;try simp at h4_
  have F1:=A4 h1 h1_ h4 h4_;refine CT (by simp [F1] <;> omega) ?_;refine AW.skip ?_;refine hK4144 _ _ _ ?_;refine AW.seq fun K4281 hK4281=>?_;refine AW.block ?_;refine SQ [] [none] fun _ _ g r=>?_;try simp [F1]
  and_intros <;> first | exact GK g | apply r | omega | (simp [maxLen,F1] <;> omega)
  refine WK [(2,AV.ptr 0 0),(5,AV.ptr 1 0),(6,Lz v8),(7,Iz v9),(8,AV.lst true true (List.map (AV.int .i64) ([] : List Int)))] [(0,.cells [Iz v0,Q2 v1,Lz v2]),(1,.cells [AV.slc 2 0 1 v10.length false]),(2,Ci v10)] 3 (by simp [F1]) (by simp [F1]) ?_;refine AW.seq fun K4349 hK4349=>?_;refine SQ [] [none,none,none] fun _ _ g r=>?_;try simp [F1]
  and_intros <;> first | exact GK g | apply r | omega | (simp [maxLen,F1] <;> omega)
  refine WK [(2,AV.ptr 0 0),(5,AV.ptr 1 0),(7,Iz v9),(8,AV.lst true true (List.map (AV.int .i64) ([] : List Int))),(25,Lz v8),(26,Iz (v8.length : Int)),(27,Iz 0)] [(0,.cells [Iz v0,Q2 v1,Lz v2]),(1,.cells [AV.slc 2 0 1 v10.length false]),(2,Ci v10)] 3 (by simp [F1]) (by simp [F1]) ?_;refine AW.block ?_;refine AW.own' 8 1 true (by simp [F1]) (by decide) ?_;refine AW.loopF (α:=(Int×(List Int)×(List Int))) (fun n (v11,v12,v13)=>Aae.L2 k v0 v1 v2 v8 v9 (fun v8_ v9_ v10_=>Aae.L1 k v0 v1 v2 n1 v8_ v9_ v10_) n v11 v12 v13=some v4) (fun (v11,v12,v13)=>[(2,AV.ptr 0 0),(5,AV.ptr 1 0),(7,Iz v9),(8,AV.slc 3 0 1 v13.length false),(25,Lz v8),(26,Iz (v8.length : Int)),(27,Iz v11)]) (fun (v11,v12,v13)=>[(0,.cells [Iz v0,Q2 v1,Lz v2]),(1,.cells [AV.slc 2 0 1 v12.length false]),(2,Ci v12),(3,Gi v13)]) 4 k ((0,v10,([] : List Int))) hF (by simp [F1]) (by simp [F1]) (by simp) ?_;rintro (_|n2) ⟨v11,v12,v13⟩ hF K4399 hK4399
  ·try dsimp only at hF
   rw [Aae.L2] at hF; cases hF
  try dsimp only at hF
  rw [Aae.L2] at hF;refine SQ [] [none] fun _ _ g r=>?_;try simp [F1]
  and_intros <;> first | exact GK g | apply r | omega | (simp [maxLen,F1] <;> omega)
  refine WK [(2,AV.ptr 0 0),(5,AV.ptr 1 0),(7,Iz v9),(8,AV.slc 3 0 1 v13.length false),(25,Lz v8),(26,Iz (v8.length : Int)),(27,Iz v11),(28,AV.bool (decide (v11<(v8.length : Int))))] [(0,.cells [Iz v0,Q2 v1,Lz v2]),(1,.cells [AV.slc 2 0 1 v12.length false]),(2,Ci v12),(3,Gi v13)] 4 (by simp [F1]) (by simp [F1]) ?_;refine AW.seq fun K4401 hK4401=>?_;by_cases h5 : v11<(v8.length : Int)
  ·replace hF:=AaX h5 hF;have h5_:=h5;try simp at h5_
   have F2:=A3 F1 h5 h5_;refine CT (by simp [F2] <;> omega) ?_;refine AW.skip ?_;refine hK4401 _ _ _ ?_;refine AW.midF (α:=((List Int)×(List Int))) (fun (v14,v15)=>Aae.J3 k v11 (fun v11_ v12_ v13_=>Aae.L2 k v0 v1 v2 v8 v9 (fun v8_ v9_ v10_=>Aae.L1 k v0 v1 v2 n1 v8_ v9_ v10_) n2 v11_ v12_ v13_) v14 v15=some v4) (fun (v14,v15)=>[(2,AV.ptr 0 0),(5,AV.ptr 1 0),(7,Iz v9),(8,AV.slc 3 0 1 v15.length false),(25,Lz v8),(26,Iz (v8.length : Int)),(27,Iz v11)]) (fun (v14,v15)=>[(0,.cells [Iz v0,Q2 v1,Lz v2]),(1,.cells [AV.slc 2 0 1 v14.length false]),(2,Ci v14),(3,Gi v15)]) 4 (fun K4409 hK4409=>?_) ?_
   ·refine AW.block ?_;refine SQ [] [none,none,none] fun _ _ g r=>?_;obtain ⟨v16,h6,h7,h8,hF⟩:=Aaa hF;have h8_:=Aao h8;try simp at h8_
    have h7_:=h7;try simp at h7_
    have F3:=A6 F2 h6 h7 h8 h8_ h7_;try simp [F3]
    and_intros <;> first | exact GK g | apply r | omega | (simp [maxLen,F3] <;> omega)
    refine WK [(2,AV.ptr 0 0),(5,AV.ptr 1 0),(7,Iz v9),(8,AV.slc 3 0 1 v13.length false),(10,Iz v16),(25,Lz v8),(26,Iz (v8.length : Int)),(27,Iz v11)] [(0,.cells [Iz v0,Q2 v1,Lz v2]),(1,.cells [AV.slc 2 0 1 v12.length false]),(2,Ci v12),(3,Gi v13)] 4 (by simp [F3]) (by simp [F3]) ?_;refine AW.seq fun K4412 hK4412=>?_;refine SQ [] [none,none,none,none,none] fun _ _ g r=>?_;obtain ⟨⟨h9,h10⟩,hF⟩:=AaZ hF;have h10_:=AbH h10;obtain ⟨v17,h11,h12,h13,hF⟩:=Aaa hF;have h13_:=Aao h13;try simp at h13_
    have h12_:=h12;try simp at h12_
    have F4:=A9 F3 h9 h10 h10_ h11 h12 h13 h13_ h12_;try simp [F4]
    and_intros <;> first | exact GK g | apply r | omega | (simp [maxLen,F4] <;> omega)
    refine WK [(2,AV.ptr 0 0),(5,AV.ptr 1 0),(7,Iz v9),(8,AV.slc 3 0 1 v13.length false),(10,Iz v16),(25,Lz v8),(26,Iz (v8.length : Int)),(27,Iz v11),(35,AV.bool (decide (0≤v17)))] [(0,.cells [Iz v0,Q2 v1,Lz v2]),(1,.cells [AV.slc 2 0 1 v12.length false]),(2,Ci v12),(3,Gi v13)] 4 (by simp [F4]) (by simp [F4]) ?_;by_cases h14 : 0≤v17
    ·replace hF:=AaX h14 hF;have h14_:=h14;try simp at h14_
     have F5:=A3 F4 h14 h14_;refine CT (by simp [F5] <;> omega) ?_;refine AW.exit ?_;try simp
     refine hK4409 _ _ _ ?_;exact JN ((v12,v13)) hF (by simp [F5]) (by simp [F5])
    ·replace hF:=AaY h14 hF;have h14_:=h14;try simp at h14_
     have F6:=A3 F4 h14 h14_;refine CF (by simp [F6] <;> omega) ?_;refine AW.skip ?_;refine hK4412 _ _ _ ?_;refine SQ [] [none,none,none,none,none] fun _ _ g r=>?_;obtain ⟨⟨h15,h16⟩,hF⟩:=AaZ hF;have h16_:=AbH h16;have F7:=A4 F6 h15 h16 h16_;try simp [F7]
     and_intros <;> first | exact GK g | apply r | omega | (simp [maxLen,F7] <;> omega)
     refine WK [(2,AV.ptr 0 0),(5,AV.ptr 1 0),(7,Iz v9),(8,AV.slc 3 0 1 v13.length false),(10,Iz v16),(25,Lz v8),(26,Iz (v8.length : Int)),(27,Iz v11)] [(0,.cells [Iz v0,Q2 v1,Lz v2]),(1,.cells [AV.slc 2 0 1 ((v12.set (v16).toNat v9).length) false]),(2,Ci (v12.set (v16).toNat v9)),(3,Gi v13)] 4 (by simp [F7]) (by simp [F7]) ?_;refine RG [] [none,none,none,none,none,none] fun _ _ g r=>?_;try simp [F7]
     and_intros
     try any_goals first | omega | (simp [maxLen,F7] <;> omega)
     obtain ⟨v18,h17,hF⟩:=AaO hF;refine AC (Ajb k _ _ _ _ _ h17) (.cons (.same (by simp [F7])) (.cons (.same (by simp [F7])) .nil)) ?_;obtain ⟨h18,hF⟩:=AaZ hF;have h18_:=h18;try simp at h18_
     have F8:=A2 F7 h18;try simp [F8]
     and_intros <;> first | exact GK g | apply r | omega | (simp [maxLen,F8] <;> omega)
     refine hK4409 _ _ _ ?_;refine RN h0 [(0,0),(1,1),(2,2),(3,4)] [(2,AV.ptr 0 0),(5,AV.ptr 1 0),(7,Iz v9),(8,AV.slc 3 0 1 ((v13++v18).length) false),(25,Lz v8),(26,Iz (v8.length : Int)),(27,Iz v11)] [(0,.cells [Iz v0,Q2 v1,Lz v2]),(1,.cells [AV.slc 2 0 1 ((v12.set (v16).toNat v9).length) false]),(2,Ci (v12.set (v16).toNat v9)),(3,Gi (v13++v18))] 4 (by simp [F8] <;> omega) (by simp [F8]) ?_;exact JN ((v12.set (v16).toNat v9,v13++v18)) hF (by simp [F8]) (by simp [F8])
   ·rintro ⟨v14,v15⟩ hF
    try dsimp only at hF
    unfold Aae.J3 at hF;refine RG [] [none,none] fun _ _ g r=>?_;try simp [F2]
    and_intros <;> first | exact GK g | apply r | omega | (simp [maxLen,F2] <;> omega)
    refine hK4399 _ _ _ ?_;exact NX (k':=n2) ((IntKind.wrap .i64 (v11+1),v14,v15)) hF (by simp [F2]) (by simp [F2])
  ·replace hF:=AaY h5 hF;have h5_:=h5;try simp at h5_
   have F9:=A3 F1 h5 h5_;refine CF (by simp [F9] <;> omega) ?_;refine AW.exit ?_;try simp
   refine hK4349 _ _ _ ?_;refine RG [] [none,none,none,none] fun _ _ g r=>?_;try simp [F9]
   and_intros
   try any_goals first | omega | (simp [maxLen,F9] <;> omega)
   obtain ⟨v19,h19,hF⟩:=AaO hF;refine Aa1 (Acn k _ _ _ h19) (by simp) [3,1,2] [] [3] rfl (.cons (.same (by simp [F9])) (.cons (.same (by simp [F9])) .nil)) (by simp [F9]) (by decide) (by simp) (by simp) (.inl rfl) (by simp) (by simp) ?_;try simp [F9]
   and_intros <;> first | exact GK g | apply r | omega | (simp [maxLen,F9] <;> omega)
   refine hK4281 _ _ _ ?_;refine WK [(2,AV.ptr 0 0),(5,AV.ptr 1 0),(6,Lz v19),(7,Iz v9)] [(0,.cells [Iz v0,Q2 v1,Lz v2]),(1,.cells [AV.slc 2 0 1 v12.length false]),(2,Ci v12)] 4 (by simp [F9]) (by simp [F9]) ?_;refine RG [] [none,none,none] fun _ _ g r=>?_;try simp [F9]
   and_intros <;> first | exact GK g | apply r | omega | (simp [maxLen,F9] <;> omega)
   refine hK4142 _ _ _ ?_;refine RN h0 [(0,0),(1,1),(2,2)] [(2,AV.ptr 0 0),(5,AV.ptr 1 0),(6,Lz v19),(7,Iz (IntKind.wrap .i64 (v9+1)))] [(0,.cells [Iz v0,Q2 v1,Lz v2]),(1,.cells [AV.slc 2 0 1 v12.length false]),(2,Ci v12)] 3 (by simp [F9]) (by simp [F9]) ?_;exact NX (k':=n1) ((v19,IntKind.wrap .i64 (v9+1),v12)) hF (by simp [F9]) (by simp [F9])
 ·replace hF:=AaY h4 hF;have h4_:=h4;try simp at h4_
  have F10:=A4 h1 h1_ h4 h4_;refine CF (by simp [F10] <;> omega) ?_;refine AW.exit ?_;try simp
  refine hK3315 _ _ _ ?_;refine SQ [] [none,none] fun _ _ g r=>?_;try simp [F10]
  and_intros <;> first | exact GK g | apply r | omega | (simp [maxLen,F10] <;> omega)
  refine RM h0 [(0,2)] [(4,AV.slc 0 0 1 v10.length false)] [(0,Ci v10)] 1 (by simp [F10]) (by simp [F10]) ?_;simp only [Option.some.injEq] at hF;subst hF;refine AW.ret (hQ _ _ _ ?_ (AaF ?_)).1
  ·simp [Try.f73,F10]
  ·simp [F10]
theorem Ahq (k : Nat) (v0 : (List Int)) (v1 : (List Int)) (v2 : Int) (v3 : Int) (v4 : Int) (hF : Ada k v0 v1 v2 v3=some v4) :
 Aa9 Try.prog 74 [AV.agg [AV.lst false false (List.map (AV.int .i64) v0),AV.lst false false (List.map (AV.int .i64) v1),AV.int .i64 v2],AV.int .i64 v3] [] (AV.int .i64 v4) []:=by
 unfold Ada at hF;refine EN Try.func74 ?_;intro c0 w0 Q h0 hQ
 refine WK [(0,AV.agg [Lz v0,Lz v1,Iz v2]),(1,Iz v3)] [] 0 (by simp) (by simp) ?_;refine SQ [] [none,none] fun _ _ g r=>?_;try simp
 and_intros <;> first | exact GK g | apply r | omega | (simp [maxLen] <;> omega)
 refine WK [(1,Iz v3),(2,AV.ptr 0 0)] [(0,.cells [Lz v0,Lz v1,Iz v2])] 1 (by simp) (by simp) ?_;refine AW.seq fun K17 hK17=>?_;refine AW.block ?_;refine SQ [] [none,none,none] fun _ _ g r=>?_;try simp
 and_intros <;> first | exact GK g | apply r | omega | (simp [maxLen] <;> omega)
 refine WK [(1,Iz v3),(2,AV.ptr 0 0),(5,AV.bool (decide (v3<0)))] [(0,.cells [Lz v0,Lz v1,Iz v2])] 1 (by simp) (by simp) ?_;by_cases h1 : v3<0
 ·replace hF:=AaX h1 hF;have h1_:=h1;try simp at h1_
  refine CT (by simp [h1,h1_] <;> omega) ?_;refine SQ [] [none] fun _ _ g r=>?_;try simp [h1,h1_]
  and_intros <;> first | exact GK g | apply r | omega | (simp [h1,h1_,maxLen] <;> omega)
  refine WK [(4,Iz 0)] [] 1 (by simp [h1,h1_]) (by simp [h1,h1_]) ?_;simp only [Option.some.injEq] at hF;subst hF;refine AW.ret (hQ _ _ _ ?_ (AaF ?_)).1
  ·simp [Try.f74,h1,h1_]
  ·simp [h1,h1_]
 ·replace hF:=AaY h1 hF;have h1_:=h1;try simp at h1_
  refine CF (by simp [h1,h1_] <;> omega) ?_;refine SQ [] [none,none,none,none,none,none] fun _ _ g r=>?_;try simp [h1,h1_]
  and_intros <;> first | exact GK g | apply r | omega | (simp [h1,h1_,maxLen] <;> omega)
  refine WK [(1,Iz v3),(2,AV.ptr 0 0),(8,AV.bool (decide (v3<(v1.length : Int))))] [(0,.cells [Lz v0,Lz v1,Iz v2])] 1 (by simp [h1,h1_]) (by simp [h1,h1_]) ?_;by_cases h2 : v3<(v1.length : Int)
  ·replace hF:=AaX h2 hF;have h2_:=h2;try simp at h2_
   have F1:=A4 h1 h1_ h2 h2_;refine CT (by simp [F1] <;> omega) ?_;refine SQ [] [none,none,none,none,none,none] fun _ _ g r=>?_;obtain ⟨v5,h3,h4,h5,hF⟩:=Aaa hF;have h5_:=Aao h5;try simp at h5_
   have h4_:=h4;try simp at h4_
   have F2:=A6 F1 h3 h4 h5 h5_ h4_;try simp [F2]
   and_intros <;> first | exact GK g | apply r | omega | (simp [maxLen,F2] <;> omega)
   refine WK [(4,Iz v5)] [] 1 (by simp [F2]) (by simp [F2]) ?_;simp only [Option.some.injEq] at hF;subst hF;refine AW.ret (hQ _ _ _ ?_ (AaF ?_)).1
   ·simp [Try.f74,F2]
   ·simp [F2]
  ·replace hF:=AaY h2 hF;have h2_:=h2;try simp at h2_
   have F3:=A4 h1 h1_ h2 h2_;refine CF (by simp [F3] <;> omega) ?_;refine AW.skip ?_;refine hK17 _ _ _ ?_;refine SQ [] [none] fun _ _ g r=>?_;try simp [F3]
   and_intros <;> first | exact GK g | apply r | omega | (simp [maxLen,F3] <;> omega)
   refine WK [(4,Iz 1)] [] 1 (by simp [F3]) (by simp [F3]) ?_;simp only [Option.some.injEq] at hF;subst hF;refine AW.ret (hQ _ _ _ ?_ (AaF ?_)).1
   ·simp [Try.f74,F3]
   ·simp [F3]
theorem AhC (k : Nat) (v0 : Int) (v1 : (List AaA)) (v2 : (List Int)) (v3 : (List Int)) (v4 : (List Int)) (v5 : Int) (v6 : (List Int)) (hF : AbR k v0 v1 v2 v3 v4 v5=some v6) :
 Aa9 Try.prog 43 [AV.agg [AV.int .i64 v0,Q2 v1,AV.lst false false (List.map (AV.int .i64) v2)],AV.agg [AV.lst false false (List.map (AV.int .i64) v3),AV.lst false false (List.map (AV.int .i64) v4),AV.int .i64 v5]] [] (AV.slc 0 0 1 v6.length false) [some (Ci v6)]:=by
 unfold AbR at hF;refine EN Try.func43 ?_;intro c0 w0 Q h0 hQ
 refine WK [(0,AV.agg [Iz v0,Q2 v1,Lz v2]),(1,AV.agg [Lz v3,Lz v4,Iz v5])] [] 0 (by simp) (by simp) ?_;refine SQ [] [none,none,none] fun _ _ g r=>?_;try simp
 and_intros <;> first | exact GK g | apply r | omega | (simp [maxLen] <;> omega)
 refine WK [(2,AV.ptr 0 0),(3,AV.ptr 1 0)] [(0,.cells [Iz v0,Q2 v1,Lz v2]),(1,.cells [Lz v3,Lz v4,Iz v5])] 2 (by simp) (by simp) ?_;refine SQ [] [none,none,none,none,none,none,none,none] fun _ _ g r=>?_;try simp
 and_intros
 try any_goals first | omega | (simp [maxLen] <;> omega)
 obtain ⟨v7,v8,v9,h1,hF⟩:=Ad3 hF;refine AC (AeT k _ _ _ _ _ _ _ h1) (.cons (.same (by simp)) (.cons (.same (by simp)) .nil)) ?_;try simp
 and_intros
 try any_goals first | omega | (simp [maxLen] <;> omega)
 obtain ⟨v10,h2,hF⟩:=AaO hF;refine Aa1 (AhA k _ _ _ _ _ h2) (by simp) [] [2] [] rfl (.cons (.agg (.cons (.same (by simp)) (.cons (.same (by simp)) (.cons (Coe.l (o:=Gi v9) (by simp) rfl (by simp) (by simp [AdK]) (by simp) (by simp)) .nil)))) (.cons (.same (by simp)) .nil)) (by simp) (by decide) (by simp) (by simp) (.inr ⟨by simp,by simp⟩) (by simp) (by simp) ?_;try simp
 and_intros <;> first | exact GK g | apply r | omega | (simp [maxLen] <;> omega)
 refine WK [(3,AV.ptr 1 0),(5,AV.slc 3 0 1 v10.length false)] [(1,.cells [Lz v3,Lz v4,Iz v5]),(3,Ci v10)] 4 (by simp) (by simp) ?_;refine AW.seq fun K109 hK109=>?_;refine SQ [] [none,none,none] fun _ _ g r=>?_;try simp
 and_intros <;> first | exact GK g | apply r | omega | (simp [maxLen] <;> omega)
 refine WK [(3,AV.ptr 1 0),(5,AV.slc 3 0 1 v10.length false),(15,AV.slc 3 0 1 v10.length false),(16,Iz (v10.length : Int)),(17,Iz 0)] [(1,.cells [Lz v3,Lz v4,Iz v5]),(3,Ci v10)] 4 (by simp) (by simp) ?_;refine AW.block ?_;refine RM h0 [(0,1),(1,3)] [(3,AV.ptr 0 0),(5,AV.slc 1 0 1 v10.length false),(15,AV.slc 1 0 1 v10.length false),(16,Iz (v10.length : Int)),(17,Iz 0)] [(0,.cells [Lz v3,Lz v4,Iz v5]),(1,Ci v10)] 2 (by simp) (by simp) ?_;refine AW.loopF (α:=(Int×(List Int))) (fun n (v11,v12)=>AbR.L1 k v3 v4 v5 v10 n v11 v12=some v6) (fun (v11,v12)=>[(3,AV.ptr 0 0),(5,AV.slc 1 0 1 v12.length false),(15,AV.slc 1 0 1 v12.length false),(16,Iz (v10.length : Int)),(17,Iz v11)]) (fun (v11,v12)=>[(0,.cells [Lz v3,Lz v4,Iz v5]),(1,Ci v12)]) 2 k ((0,v10)) hF (by simp) (by simp) (by simp) ?_;rintro (_|n1) ⟨v11,v12⟩ hF K135 hK135
 ·try dsimp only at hF
  rw [AbR.L1] at hF; cases hF
 try dsimp only at hF
 rw [AbR.L1] at hF;refine SQ [] [none] fun _ _ g r=>?_;try simp
 and_intros <;> first | exact GK g | apply r | omega | (simp [maxLen] <;> omega)
 refine WK [(3,AV.ptr 0 0),(5,AV.slc 1 0 1 v12.length false),(15,AV.slc 1 0 1 v12.length false),(16,Iz (v10.length : Int)),(17,Iz v11),(18,AV.bool (decide (v11<(v10.length : Int))))] [(0,.cells [Lz v3,Lz v4,Iz v5]),(1,Ci v12)] 2 (by simp) (by simp) ?_;refine AW.seq fun K137 hK137=>?_;by_cases h3 : v11<(v10.length : Int)
 ·replace hF:=AaX h3 hF;have h3_:=h3;try simp at h3_
  refine CT (by simp [h3,h3_] <;> omega) ?_;refine AW.skip ?_;refine hK137 _ _ _ ?_;refine AW.seq fun K140 hK140=>?_;refine AW.block ?_;refine SQ [] [none,none,none,none,none] fun _ _ g r=>?_;obtain ⟨⟨h4,h5⟩,hF⟩:=AaZ hF;have h5_:=AbH h5;obtain ⟨v13,h6,h7,h8,hF⟩:=Aaa hF;have h8_:=Aao h8;try simp at h8_
  have h7_:=h7;try simp at h7_
  have F1:=A9 h3 h3_ h4 h5 h5_ h6 h7 h8 (A2 h8_ h7_);try simp [F1]
  and_intros <;> first | exact GK g | apply r | omega | (simp [maxLen,F1] <;> omega)
  refine WK [(3,AV.ptr 0 0),(5,AV.slc 1 0 1 v12.length false),(6,Iz v11),(7,Iz v13),(15,AV.slc 1 0 1 v12.length false),(16,Iz (v10.length : Int)),(17,Iz v11)] [(0,.cells [Lz v3,Lz v4,Iz v5]),(1,Ci v12)] 2 (by simp [F1]) (by simp [F1]) ?_;refine RG [] [none,none,none,none,none,none,none] fun _ _ g r=>?_;try simp [F1]
  and_intros
  try any_goals first | omega | (simp [maxLen,F1] <;> omega)
  obtain ⟨v14,h9,hF⟩:=AaO hF;refine AC (Ahq k _ _ _ _ _ h9) (.cons (.same (by simp [F1])) (.cons (.same (by simp [F1])) .nil)) ?_;obtain ⟨⟨h10,h11⟩,hF⟩:=AaZ hF;have h11_:=AbH h11;have F2:=A4 F1 h10 h11 h11_;try simp [F2]
  and_intros <;> first | exact GK g | apply r | omega | (simp [maxLen,F2] <;> omega)
  refine hK140 _ _ _ ?_;refine WK [(3,AV.ptr 0 0),(5,AV.slc 1 0 1 ((v12.set (v11).toNat v14).length) false),(15,AV.slc 1 0 1 ((v12.set (v11).toNat v14).length) false),(16,Iz (v10.length : Int)),(17,Iz v11)] [(0,.cells [Lz v3,Lz v4,Iz v5]),(1,Ci (v12.set (v11).toNat v14))] 2 (by simp [F2]) (by simp [F2]) ?_;refine RG [] [none,none] fun _ _ g r=>?_;try simp [F2]
  and_intros <;> first | exact GK g | apply r | omega | (simp [maxLen,F2] <;> omega)
  refine hK135 _ _ _ ?_;exact NX (k':=n1) ((IntKind.wrap .i64 (v11+1),v12.set (v11).toNat v14)) hF (by simp [F2]) (by simp [F2])
 ·replace hF:=AaY h3 hF;have h3_:=h3;try simp at h3_
  refine CF (by simp [h3,h3_] <;> omega) ?_;refine AW.exit ?_;try simp
  refine hK109 _ _ _ ?_;refine SQ [] [none,none] fun _ _ g r=>?_;try simp [h3,h3_]
  and_intros <;> first | exact GK g | apply r | omega | (simp [h3,h3_,maxLen] <;> omega)
  refine RM h0 [(0,1)] [(4,AV.slc 0 0 1 v12.length false)] [(0,Ci v12)] 1 (by simp [h3,h3_]) (by simp [h3,h3_]) ?_;simp only [Option.some.injEq] at hF;subst hF;refine AW.ret (hQ _ _ _ ?_ (AaF ?_)).1
  ·simp [Try.f43,h3,h3_]
  ·simp [h3,h3_]
theorem AcU (k : Nat) (v0 : Int) (v1 : Int) (v2 : Int) (v3 : Int) (v4 : (List AaC)) (v5 : (List AaC)) (hF : Abh k v0 v1 v2 v3 v4=some v5) :
 Aa9 Try.prog 42 [AV.int .i64 v0,AV.int .i64 v1,AV.int .i64 v2,AV.ptr 0 0] [.cells [AV.int .i64 v3,AV.slc 1 0 3 v4.length false],.grow (AaL (List.map AaC.av v4))] (AV.tup []) [some (.cells [AV.int .i64 v3,AV.slc 2 0 3 v5.length false]),none,some (.grow (AaL (List.map AaC.av v5)))]:=by
 unfold Abh at hF;refine EN Try.func42 ?_;intro c0 w0 Q h0 hQ
 refine WK [(0,Iz v0),(1,Iz v1),(2,Iz v2),(3,AV.ptr 0 0)] [(0,.cells [Iz v3,AV.slc 1 0 3 v4.length false]),(1,.grow (AaL (List.map AaC.av v4)))] 2 (by simp) (by simp) ?_;refine RG [] [none,none,none,none,none,none,none,none,none,none] fun _ _ g r=>?_;obtain ⟨h1,hF⟩:=AaZ hF;have h1_:=h1;try simp at h1_
 try simp [h1]
 and_intros <;> first | exact GK g | apply r | omega | (simp [h1,maxLen] <;> omega)
 simp only [Option.some.injEq] at hF;subst hF;refine (hQ _ _ _ ?_ (AaF ?_)).2
 ·simp [Try.f42,h1]
 ·simp [h1]
theorem AgA (k : Nat) (v0 : Int) (v1 : Int) (hF : AdN k v0=some v1) :
 Aa9 Try.prog 44 [AV.int .i64 v0] [] (AV.int .i64 v1) []:=by
 unfold AdN at hF;refine EN Try.func44 ?_;intro c0 w0 Q h0 hQ
 refine WK [(0,Iz v0)] [] 0 (by simp) (by simp) ?_;refine SQ [] [none] fun _ _ g r=>?_;try simp
 and_intros <;> first | exact GK g | apply r | omega | (simp [maxLen] <;> omega)
 refine WK [(0,Iz v0)] [] 0 (by simp) (by simp) ?_;refine SQ [] [none,none,none,none] fun _ _ g r=>?_;try simp
 and_intros
 try any_goals first | omega | (simp [maxLen] <;> omega)
 obtain ⟨v2,h1,hF⟩:=AaO hF;refine AC (AcV k _ _ h1) (.cons (.same (by simp)) .nil) ?_;try simp
 and_intros <;> first | exact GK g | apply r | omega | (simp [maxLen] <;> omega)
 refine WK [(2,Iz (IntKind.wrap .i64 (v2+1)))] [] 0 (by simp) (by simp) ?_;simp only [Option.some.injEq] at hF;subst hF;refine AW.ret (hQ _ _ _ ?_ (AaF ?_)).1
 ·simp [Try.f44]
 ·simp
theorem AeQ (k : Nat) (v0 : Int) (v1 : (List AaA)) (v2 : (List Int)) (v3 : (List Int)) (v4 : (List Int)) (v5 : Int) (v6 : (List Int)) (v7 : Int) (v8 : (List AaC)) (v9 : Int) (hF : AaN k v0 v1 v2 v3 v4 v5 v6=some (v7,v8,v9)) :
 Aa9 Try.prog 15 [AV.agg [AV.int .i64 v0,Q2 v1,AV.lst false false (List.map (AV.int .i64) v2)],AV.agg [AV.lst false false (List.map (AV.int .i64) v3),AV.lst false false (List.map (AV.int .i64) v4),AV.int .i64 v5],AV.lst false false (List.map (AV.int .i64) v6)] [] (AV.tup [AV.agg [AV.int .i64 v7,AV.slc 0 0 3 v8.length false],AV.int .i64 v9]) [some (.grow (AaL (List.map AaC.av v8)))]:=by
 unfold AaN at hF;refine EN Try.func15 ?_;intro c0 w0 Q h0 hQ
 refine WK [(0,AV.agg [Iz v0,Q2 v1,Lz v2]),(1,AV.agg [Lz v3,Lz v4,Iz v5]),(2,Lz v6)] [] 0 (by simp) (by simp) ?_;refine SQ [] [none,none,none,none] fun _ _ g r=>?_;try simp
 and_intros <;> first | exact GK g | apply r | omega | (simp [maxLen] <;> omega)
 refine WK [(2,Lz v6),(3,AV.ptr 0 0),(4,AV.ptr 1 0),(6,AV.ptr 2 0)] [(0,.cells [Iz v0,Q2 v1,Lz v2]),(1,.cells [Lz v3,Lz v4,Iz v5]),(2,.cells [Iz 0,AV.lst true true (List.map AaC.av ([] : List AaC))])] 3 (by simp) (by simp) ?_;refine AW.seq fun K362 hK362=>?_;refine SQ [] [none,none,none,none] fun _ _ g r=>?_;try simp
 and_intros
 try any_goals first | omega | (simp [maxLen] <;> omega)
 obtain ⟨v10,h1,hF⟩:=AaO hF;refine AC (AgI k _ _ _ _ _ _ _ h1) (.cons (.same (by simp)) (.cons (.same (by simp)) .nil)) ?_;try simp
 and_intros <;> first | exact GK g | apply r | omega | (simp [maxLen] <;> omega)
 refine WK [(2,Lz v6),(3,AV.ptr 0 0),(4,AV.ptr 1 0),(6,AV.ptr 2 0),(8,Iz v10)] [(0,.cells [Iz v0,Q2 v1,Lz v2]),(1,.cells [Lz v3,Lz v4,Iz v5]),(2,.cells [Iz 0,AV.lst true true (List.map AaC.av ([] : List AaC))])] 3 (by simp) (by simp) ?_;refine SQ [] [none,none] fun _ _ g r=>?_;try simp
 and_intros <;> first | exact GK g | apply r | omega | (simp [maxLen] <;> omega)
 refine WK [(2,Lz v6),(3,AV.ptr 0 0),(4,AV.ptr 1 0),(6,AV.ptr 2 0),(8,Iz v10),(24,AV.bool (v10 !=0))] [(0,.cells [Iz v0,Q2 v1,Lz v2]),(1,.cells [Lz v3,Lz v4,Iz v5]),(2,.cells [Iz 0,AV.lst true true (List.map AaC.av ([] : List AaC))])] 3 (by simp) (by simp) ?_;by_cases h2 : v10≠0
 ·replace hF:=AaX h2 hF;have h2_:=Abo h2;have h2__:=Abt h2;have F1:=A3 h2 h2_ h2__;refine CT (by simp [F1] <;> omega) ?_;refine SQ [] [none,none,none,none] fun _ _ g r=>?_;try simp [F1]
  and_intros <;> first | exact GK g | apply r | omega | (simp [maxLen,F1] <;> omega)
  refine WK [(6,AV.ptr 2 0),(7,Iz v10)] [(2,.cells [Iz 0,AV.lst true true (List.map AaC.av ([] : List AaC))])] 3 (by simp [F1]) (by simp [F1]) ?_;refine AW.ownC 2 1 3 true (cs:=[Iz 0,AV.lst true true (List.map AaC.av ([] : List AaC))]) (by simp [F1]) (by simp) ?_;refine RM h0 [(0,3),(1,2)] [(6,AV.ptr 1 0),(7,Iz v10)] [(0,.grow (AaL (List.map AaC.av ([] : List AaC)))),(1,.cells [Iz 0,AV.slc 0 0 3 (([] : List AaC).length) false])] 2 (by simp [F1]) (by simp [F1]) ?_;simp only [Option.some.injEq,Prod.mk.injEq] at hF;obtain ⟨e0,e1,e2⟩:=hF;subst e0 e1 e2;refine AW.ret (hQ _ _ _ ?_ (AaF ?_)).1
  ·simp [Try.f15,F1]
  ·simp [F1]
 ·replace hF:=AaY h2 hF;have h2q : v10=0:=Classical.not_not.1 h2;have h2_:=Abx h2q;have h2__:=Abw h2q;have F2:=A3 h2_ h2__ h2q;refine CF (by simp [F2] <;> omega) ?_;refine AW.skip ?_;refine hK362 _ _ _ ?_;refine AW.seq fun K368 hK368=>?_;refine SQ [] [none,none,none,none,none,none] fun _ _ g r=>?_;try simp [F2]
  and_intros
  try any_goals first | omega | (simp [maxLen,F2] <;> omega)
  obtain ⟨v11,h3,hF⟩:=AaO hF;refine AC (Adm k _ _ _ _ h3) (.cons (.same (by simp [F2])) (.cons (.same (by simp [F2])) (.cons (.same (by simp [F2])) .nil))) ?_;try simp [F2]
  and_intros <;> first | exact GK g | apply r | omega | (simp [maxLen,F2] <;> omega)
  refine WK [(2,Lz v6),(3,AV.ptr 0 0),(4,AV.ptr 1 0),(6,AV.ptr 2 0),(32,AV.bool (!v11))] [(0,.cells [Iz v0,Q2 v1,Lz v2]),(1,.cells [Lz v3,Lz v4,Iz v5]),(2,.cells [Iz 0,AV.lst true true (List.map AaC.av ([] : List AaC))])] 3 (by simp [F2]) (by simp [F2]) ?_;by_cases h4 : (!v11)=true
  ·replace hF:=AaX h4 hF;have h4_:=h4;try simp at h4_
   have F3:=A3 F2 h4 h4_;refine CT (by simp [F3] <;> omega) ?_;refine SQ [] [none,none,none] fun _ _ g r=>?_;try simp [F3]
   and_intros <;> first | exact GK g | apply r | omega | (simp [maxLen,F3] <;> omega)
   refine WK [(6,AV.ptr 2 0),(7,Iz 4)] [(2,.cells [Iz 0,AV.lst true true (List.map AaC.av ([] : List AaC))])] 3 (by simp [F3]) (by simp [F3]) ?_;refine AW.ownC 2 1 3 true (cs:=[Iz 0,AV.lst true true (List.map AaC.av ([] : List AaC))]) (by simp [F3]) (by simp) ?_;refine RM h0 [(0,3),(1,2)] [(6,AV.ptr 1 0),(7,Iz 4)] [(0,.grow (AaL (List.map AaC.av ([] : List AaC)))),(1,.cells [Iz 0,AV.slc 0 0 3 (([] : List AaC).length) false])] 2 (by simp [F3]) (by simp [F3]) ?_;simp only [Option.some.injEq,Prod.mk.injEq] at hF;obtain ⟨e0,e1,e2⟩:=hF;subst e0 e1 e2;refine AW.ret (hQ _ _ _ ?_ (AaF ?_)).1
   ·simp [Try.f15,F3]
   ·simp [F3]
  ·replace hF:=AaY h4 hF;have h4_:=h4;try simp at h4_
   have F4:=A3 F2 h4 h4_;refine CF (by simp [F4] <;> omega) ?_;refine AW.skip ?_;refine hK368 _ _ _ ?_;refine SQ [] [none,none,none,none,none,none] fun _ _ g r=>?_;try simp [F4]
   and_intros
   try any_goals first | omega | (simp [maxLen,F4] <;> omega)
   obtain ⟨v12,h5,hF⟩:=AaO hF;refine AC (AcV k _ _ h5) (.cons (.same (by simp [F4])) .nil) ?_;try simp [F4]
   and_intros <;> first | exact GK g | apply r | omega | (simp [maxLen,F4] <;> omega)
   refine WK [(2,Lz v6),(3,AV.ptr 0 0),(4,AV.ptr 1 0),(6,AV.ptr 2 0),(9,AV.ptr 3 0)] [(0,.cells [Iz v0,Q2 v1,Lz v2]),(1,.cells [Lz v3,Lz v4,Iz v5]),(2,.cells [Iz 0,AV.lst true true (List.map AaC.av ([] : List AaC))]),(3,.cells [Iz v12,AV.lst true true (List.map AaC.av ([] : List AaC))])] 4 (by simp [F4]) (by simp [F4]) ?_;refine SQ [] [none,none] fun _ _ g r=>?_;try simp [F4]
   and_intros <;> first | exact GK g | apply r | omega | (simp [maxLen,F4] <;> omega)
   refine WK [(2,Lz v6),(3,AV.ptr 0 0),(4,AV.ptr 1 0),(6,AV.ptr 2 0),(9,AV.ptr 3 0),(10,AV.fn 42 [AV.ptr 3 0])] [(0,.cells [Iz v0,Q2 v1,Lz v2]),(1,.cells [Lz v3,Lz v4,Iz v5]),(2,.cells [Iz 0,AV.lst true true (List.map AaC.av ([] : List AaC))]),(3,.cells [Iz v12,AV.lst true true (List.map AaC.av ([] : List AaC))])] 4 (by simp [F4]) (by simp [F4]) ?_;refine SQ [] [none,none,none,none] fun _ _ g r=>?_;try simp [F4]
   and_intros
   try any_goals first | omega | (simp [maxLen,F4] <;> omega)
   obtain ⟨v13,h6,hF⟩:=AaO hF;refine AC (AhC k _ _ _ _ _ _ _ h6) (.cons (.same (by simp [F4])) (.cons (.same (by simp [F4])) .nil)) ?_;try simp [F4]
   and_intros <;> first | exact GK g | apply r | omega | (simp [maxLen,F4] <;> omega)
   refine WK [(2,Lz v6),(3,AV.ptr 0 0),(4,AV.ptr 1 0),(6,AV.ptr 2 0),(9,AV.ptr 3 0),(10,AV.fn 42 [AV.ptr 3 0]),(11,AV.slc 4 0 1 v13.length false)] [(0,.cells [Iz v0,Q2 v1,Lz v2]),(1,.cells [Lz v3,Lz v4,Iz v5]),(2,.cells [Iz 0,AV.lst true true (List.map AaC.av ([] : List AaC))]),(3,.cells [Iz v12,AV.lst true true (List.map AaC.av ([] : List AaC))]),(4,Ci v13)] 5 (by simp [F4]) (by simp [F4]) ?_;refine AW.frz 4 (o:=Ci v13) (by simp [F4]) rfl [(11,Lz v13)] [] ⟨(.l (by simp) (by simp) (by simp) (by simp)),trivial⟩ trivial ?_;refine WK [(2,Lz v6),(3,AV.ptr 0 0),(4,AV.ptr 1 0),(6,AV.ptr 2 0),(9,AV.ptr 3 0),(10,AV.fn 42 [AV.ptr 3 0]),(11,Lz v13)] [(0,.cells [Iz v0,Q2 v1,Lz v2]),(1,.cells [Lz v3,Lz v4,Iz v5]),(2,.cells [Iz 0,AV.lst true true (List.map AaC.av ([] : List AaC))]),(3,.cells [Iz v12,AV.lst true true (List.map AaC.av ([] : List AaC))])] 5 (by simp [F4]) (by simp [F4]) ?_;refine AW.seq fun K416 hK416=>?_;refine SQ [] [none,none,none,none] fun _ _ g r=>?_;try simp [F4]
   and_intros <;> first | exact GK g | apply r | omega | (simp [maxLen,F4] <;> omega)
   refine WK [(2,Lz v6),(3,AV.ptr 0 0),(4,AV.ptr 1 0),(6,AV.ptr 2 0),(9,AV.ptr 3 0),(10,AV.fn 42 [AV.ptr 3 0]),(11,Lz v13),(43,Lz v3),(44,Iz (v3.length : Int)),(45,Iz 0)] [(0,.cells [Iz v0,Q2 v1,Lz v2]),(1,.cells [Lz v3,Lz v4,Iz v5]),(2,.cells [Iz 0,AV.lst true true (List.map AaC.av ([] : List AaC))]),(3,.cells [Iz v12,AV.lst true true (List.map AaC.av ([] : List AaC))])] 5 (by simp [F4]) (by simp [F4]) ?_;refine AW.block ?_;refine AW.ownC 2 1 3 true (cs:=[Iz 0,AV.lst true true (List.map AaC.av ([] : List AaC))]) (by simp [F4]) (by simp) ?_;refine AW.ownC 3 1 3 true (cs:=[Iz v12,AV.lst true true (List.map AaC.av ([] : List AaC))]) (by simp [F4]) (by simp) ?_;refine RM h0 [(0,0),(1,1),(2,2),(3,5),(4,3),(5,6)] [(2,Lz v6),(3,AV.ptr 0 0),(4,AV.ptr 1 0),(6,AV.ptr 2 0),(9,AV.ptr 4 0),(10,AV.fn 42 [AV.ptr 4 0]),(11,Lz v13),(43,Lz v3),(44,Iz (v3.length : Int)),(45,Iz 0)] [(0,.cells [Iz v0,Q2 v1,Lz v2]),(1,.cells [Lz v3,Lz v4,Iz v5]),(2,.cells [Iz 0,AV.slc 3 0 3 (([] : List AaC).length) false]),(3,.grow (AaL (List.map AaC.av ([] : List AaC)))),(4,.cells [Iz v12,AV.slc 5 0 3 (([] : List AaC).length) false]),(5,.grow (AaL (List.map AaC.av ([] : List AaC))))] 6 (by simp [F4]) (by simp [F4]) ?_;refine AW.loopF (α:=(Int×(List AaC))) (fun n (v14,v15)=>AaN.L1 k v0 v1 v2 v3 v5 v6 v12 v13 n v14 v15=some (v7,v8,v9)) (fun (v14,v15)=>[(2,Lz v6),(3,AV.ptr 0 0),(4,AV.ptr 1 0),(6,AV.ptr 2 0),(9,AV.ptr 4 0),(10,AV.fn 42 [AV.ptr 4 0]),(11,Lz v13),(43,Lz v3),(44,Iz (v3.length : Int)),(45,Iz v14)]) (fun (v14,v15)=>[(0,.cells [Iz v0,Q2 v1,Lz v2]),(1,.cells [Lz v3,Lz v4,Iz v5]),(2,.cells [Iz 0,AV.slc 3 0 3 (([] : List AaC).length) false]),(3,.grow (AaL (List.map AaC.av ([] : List AaC)))),(4,.cells [Iz v12,AV.slc 5 0 3 v15.length false]),(5,.grow (AaL (List.map AaC.av v15)))]) 6 k ((0,([] : List AaC))) hF (by simp [F4]) (by simp [F4]) (by simp) ?_;rintro (_|n1) ⟨v14,v15⟩ hF K448 hK448
   ·try dsimp only at hF
    rw [AaN.L1] at hF; cases hF
   try dsimp only at hF
   rw [AaN.L1] at hF;refine SQ [] [none] fun _ _ g r=>?_;try simp [F4]
   and_intros <;> first | exact GK g | apply r | omega | (simp [maxLen,F4] <;> omega)
   refine WK [(2,Lz v6),(3,AV.ptr 0 0),(4,AV.ptr 1 0),(6,AV.ptr 2 0),(9,AV.ptr 4 0),(10,AV.fn 42 [AV.ptr 4 0]),(11,Lz v13),(43,Lz v3),(44,Iz (v3.length : Int)),(45,Iz v14),(46,AV.bool (decide (v14<(v3.length : Int))))] [(0,.cells [Iz v0,Q2 v1,Lz v2]),(1,.cells [Lz v3,Lz v4,Iz v5]),(2,.cells [Iz 0,AV.slc 3 0 3 (([] : List AaC).length) false]),(3,.grow (AaL (List.map AaC.av ([] : List AaC)))),(4,.cells [Iz v12,AV.slc 5 0 3 v15.length false]),(5,.grow (AaL (List.map AaC.av v15)))] 6 (by simp [F4]) (by simp [F4]) ?_;refine AW.seq fun K450 hK450=>?_;by_cases h7 : v14<(v3.length : Int)
   ·replace hF:=AaX h7 hF;have h7_:=h7;try simp at h7_
    have F5:=A3 F4 h7 h7_;refine CT (by simp [F5] <;> omega) ?_;refine AW.skip ?_;refine hK450 _ _ _ ?_;refine AW.midF (α:=(List AaC)) (fun v16=>AaN.J2 k v14 (fun v14_ v15_=>AaN.L1 k v0 v1 v2 v3 v5 v6 v12 v13 n1 v14_ v15_) v16=some (v7,v8,v9)) (fun v16=>[(2,Lz v6),(3,AV.ptr 0 0),(4,AV.ptr 1 0),(6,AV.ptr 2 0),(9,AV.ptr 4 0),(10,AV.fn 42 [AV.ptr 4 0]),(11,Lz v13),(43,Lz v3),(44,Iz (v3.length : Int)),(45,Iz v14)]) (fun v16=>[(0,.cells [Iz v0,Q2 v1,Lz v2]),(1,.cells [Lz v3,Lz v4,Iz v5]),(2,.cells [Iz 0,AV.slc 3 0 3 (([] : List AaC).length) false]),(3,.grow (AaL (List.map AaC.av ([] : List AaC)))),(4,.cells [Iz v12,AV.slc 5 0 3 v16.length false]),(5,.grow (AaL (List.map AaC.av v16)))]) 6 (fun K455 hK455=>?_) ?_
    ·refine AW.block ?_;refine SQ [] [none,none,none] fun _ _ g r=>?_;obtain ⟨v17,h8,h9,h10,hF⟩:=Aaa hF;have h10_:=Aao h10;try simp at h10_
     have h9_:=h9;try simp at h9_
     have F6:=A6 F5 h8 h9 h10 h10_ h9_;try simp [F6]
     and_intros <;> first | exact GK g | apply r | omega | (simp [maxLen,F6] <;> omega)
     refine WK [(2,Lz v6),(3,AV.ptr 0 0),(4,AV.ptr 1 0),(6,AV.ptr 2 0),(9,AV.ptr 4 0),(10,AV.fn 42 [AV.ptr 4 0]),(11,Lz v13),(13,Iz v17),(43,Lz v3),(44,Iz (v3.length : Int)),(45,Iz v14)] [(0,.cells [Iz v0,Q2 v1,Lz v2]),(1,.cells [Lz v3,Lz v4,Iz v5]),(2,.cells [Iz 0,AV.slc 3 0 3 (([] : List AaC).length) false]),(3,.grow (AaL (List.map AaC.av ([] : List AaC)))),(4,.cells [Iz v12,AV.slc 5 0 3 v15.length false]),(5,.grow (AaL (List.map AaC.av v15)))] 6 (by simp [F6]) (by simp [F6]) ?_;refine SQ [] [none,none,none,none,none] fun _ _ g r=>?_;obtain ⟨v18,h11,h12,h13,hF⟩:=Aaa hF;have h13_:=Aao h13;try simp at h13_
     have h12_:=h12;try simp at h12_
     have F7:=A6 F6 h11 h12 h13 h13_ h12_;try simp [F7]
     and_intros <;> first | exact GK g | apply r | omega | (simp [maxLen,F7] <;> omega)
     refine WK [(2,Lz v6),(3,AV.ptr 0 0),(4,AV.ptr 1 0),(6,AV.ptr 2 0),(9,AV.ptr 4 0),(10,AV.fn 42 [AV.ptr 4 0]),(11,Lz v13),(13,Iz v17),(43,Lz v3),(44,Iz (v3.length : Int)),(45,Iz v14),(53,AV.bool (decide (0<v18)))] [(0,.cells [Iz v0,Q2 v1,Lz v2]),(1,.cells [Lz v3,Lz v4,Iz v5]),(2,.cells [Iz 0,AV.slc 3 0 3 (([] : List AaC).length) false]),(3,.grow (AaL (List.map AaC.av ([] : List AaC)))),(4,.cells [Iz v12,AV.slc 5 0 3 v15.length false]),(5,.grow (AaL (List.map AaC.av v15)))] 6 (by simp [F7]) (by simp [F7]) ?_;by_cases h14 : 0<v18
     ·replace hF:=AaX h14 hF;have h14_:=h14;try simp at h14_
      have F8:=A3 F7 h14 h14_;refine CT (by simp [F8] <;> omega) ?_;refine RG [] [none,none,none,none,none,none,none,none] fun _ _ g r=>?_;try simp [F8]
      and_intros
      try any_goals first | omega | (simp [maxLen,F8] <;> omega)
      obtain ⟨v19,h15,hF⟩:=AaO hF;refine AC (AcV k _ _ h15) (.cons (.same (by simp [F8])) .nil) ?_;try simp [F8]
      and_intros
      try any_goals first | omega | (simp [maxLen,F8] <;> omega)
      obtain ⟨v20,h16,hF⟩:=AaO hF;refine Aa1 (AcU k _ _ _ _ _ _ h16) (by simp) [4,5] [] [4,5] rfl (.cons (.same (by simp [F8])) (.cons (.same (by simp [F8])) (.cons (.same (by simp [F8])) (.cons (.same (by simp [F8])) .nil)))) (by simp [F8]) (by decide) (by simp) (by simp) (.inl rfl) (by simp) (by simp) ?_;try simp [F8]
      and_intros <;> first | exact GK g | apply r | omega | (simp [maxLen,F8] <;> omega)
      refine hK455 _ _ _ ?_;refine RN h0 [(0,0),(1,1),(2,2),(3,3),(4,4),(5,6)] [(2,Lz v6),(3,AV.ptr 0 0),(4,AV.ptr 1 0),(6,AV.ptr 2 0),(9,AV.ptr 4 0),(10,AV.fn 42 [AV.ptr 4 0]),(11,Lz v13),(43,Lz v3),(44,Iz (v3.length : Int)),(45,Iz v14)] [(0,.cells [Iz v0,Q2 v1,Lz v2]),(1,.cells [Lz v3,Lz v4,Iz v5]),(2,.cells [Iz 0,AV.slc 3 0 3 (([] : List AaC).length) false]),(3,.grow (AaL (List.map AaC.av ([] : List AaC)))),(4,.cells [Iz v12,AV.slc 5 0 3 v20.length false]),(5,.grow (AaL (List.map AaC.av v20)))] 6 (by simp [F8]) (by simp [F8]) ?_;exact JN (v20) hF (by simp [F8]) (by simp [F8])
     ·replace hF:=AaY h14 hF;have h14_:=h14;try simp at h14_
      have F9:=A3 F7 h14 h14_;refine CF (by simp [F9] <;> omega) ?_;refine AW.skip ?_;refine hK455 _ _ _ ?_;exact JN (v15) hF (by simp [F9]) (by simp [F9])
    ·rintro v16 hF
     try dsimp only at hF
     unfold AaN.J2 at hF;refine RG [] [none,none] fun _ _ g r=>?_;try simp [F5]
     and_intros <;> first | exact GK g | apply r | omega | (simp [maxLen,F5] <;> omega)
     refine hK448 _ _ _ ?_;exact NX (k':=n1) ((IntKind.wrap .i64 (v14+1),v16)) hF (by simp [F5]) (by simp [F5])
   ·replace hF:=AaY h7 hF;have h7_:=h7;try simp at h7_
    have F10:=A3 F4 h7 h7_;refine CF (by simp [F10] <;> omega) ?_;refine AW.exit ?_;try simp
    refine hK416 _ _ _ ?_;refine AW.seq fun K501 hK501=>?_;refine SQ [] [none,none,none] fun _ _ g r=>?_;try simp [F10]
    and_intros <;> first | exact GK g | apply r | omega | (simp [maxLen,F10] <;> omega)
    refine WK [(2,Lz v6),(3,AV.ptr 0 0),(4,AV.ptr 1 0),(6,AV.ptr 2 0),(9,AV.ptr 4 0),(10,AV.fn 42 [AV.ptr 4 0]),(11,Lz v13),(63,Lz v13),(64,Iz (v13.length : Int)),(65,Iz 0)] [(0,.cells [Iz v0,Q2 v1,Lz v2]),(1,.cells [Lz v3,Lz v4,Iz v5]),(2,.cells [Iz 0,AV.slc 3 0 3 (([] : List AaC).length) false]),(3,.grow (AaL (List.map AaC.av ([] : List AaC)))),(4,.cells [Iz v12,AV.slc 5 0 3 v15.length false]),(5,.grow (AaL (List.map AaC.av v15)))] 6 (by simp [F10]) (by simp [F10]) ?_;refine AW.block ?_;refine AW.loopF (α:=(Int×(List AaC))) (fun n (v21,v22)=>AaN.L3 k v0 v1 v2 v5 v6 v12 v13 n v21 v22=some (v7,v8,v9)) (fun (v21,v22)=>[(2,Lz v6),(3,AV.ptr 0 0),(4,AV.ptr 1 0),(6,AV.ptr 2 0),(9,AV.ptr 4 0),(10,AV.fn 42 [AV.ptr 4 0]),(11,Lz v13),(63,Lz v13),(64,Iz (v13.length : Int)),(65,Iz v21)]) (fun (v21,v22)=>[(0,.cells [Iz v0,Q2 v1,Lz v2]),(1,.cells [Lz v3,Lz v4,Iz v5]),(2,.cells [Iz 0,AV.slc 3 0 3 (([] : List AaC).length) false]),(3,.grow (AaL (List.map AaC.av ([] : List AaC)))),(4,.cells [Iz v12,AV.slc 5 0 3 v22.length false]),(5,.grow (AaL (List.map AaC.av v22)))]) 6 k ((0,v15)) hF (by simp [F10]) (by simp [F10]) (by simp) ?_;rintro (_|n3) ⟨v21,v22⟩ hF K533 hK533
    ·try dsimp only at hF
     rw [AaN.L3] at hF; cases hF
    try dsimp only at hF
    rw [AaN.L3] at hF;refine SQ [] [none] fun _ _ g r=>?_;try simp [F10]
    and_intros <;> first | exact GK g | apply r | omega | (simp [maxLen,F10] <;> omega)
    refine WK [(2,Lz v6),(3,AV.ptr 0 0),(4,AV.ptr 1 0),(6,AV.ptr 2 0),(9,AV.ptr 4 0),(10,AV.fn 42 [AV.ptr 4 0]),(11,Lz v13),(63,Lz v13),(64,Iz (v13.length : Int)),(65,Iz v21),(66,AV.bool (decide (v21<(v13.length : Int))))] [(0,.cells [Iz v0,Q2 v1,Lz v2]),(1,.cells [Lz v3,Lz v4,Iz v5]),(2,.cells [Iz 0,AV.slc 3 0 3 (([] : List AaC).length) false]),(3,.grow (AaL (List.map AaC.av ([] : List AaC)))),(4,.cells [Iz v12,AV.slc 5 0 3 v22.length false]),(5,.grow (AaL (List.map AaC.av v22)))] 6 (by simp [F10]) (by simp [F10]) ?_;refine AW.seq fun K535 hK535=>?_;by_cases h17 : v21<(v13.length : Int)
    ·replace hF:=AaX h17 hF;have h17_:=h17;try simp at h17_
     have F11:=A3 F10 h17 h17_;refine CT (by simp [F11] <;> omega) ?_;refine AW.skip ?_;refine hK535 _ _ _ ?_;refine AW.midF (α:=(List AaC)) (fun v23=>AaN.J4 k v21 (fun v21_ v22_=>AaN.L3 k v0 v1 v2 v5 v6 v12 v13 n3 v21_ v22_) v23=some (v7,v8,v9)) (fun v23=>[(2,Lz v6),(3,AV.ptr 0 0),(4,AV.ptr 1 0),(6,AV.ptr 2 0),(9,AV.ptr 4 0),(10,AV.fn 42 [AV.ptr 4 0]),(11,Lz v13),(63,Lz v13),(64,Iz (v13.length : Int)),(65,Iz v21)]) (fun v23=>[(0,.cells [Iz v0,Q2 v1,Lz v2]),(1,.cells [Lz v3,Lz v4,Iz v5]),(2,.cells [Iz 0,AV.slc 3 0 3 (([] : List AaC).length) false]),(3,.grow (AaL (List.map AaC.av ([] : List AaC)))),(4,.cells [Iz v12,AV.slc 5 0 3 v23.length false]),(5,.grow (AaL (List.map AaC.av v23)))]) 6 (fun K540 hK540=>?_) ?_
     ·refine AW.block ?_;refine SQ [] [none,none,none,none,none] fun _ _ g r=>?_;obtain ⟨v24,h18,h19,h20,hF⟩:=Aaa hF;have h20_:=Aao h20;try simp at h20_
      have h19_:=h19;try simp at h19_
      have F12:=A6 F11 h18 h19 h20 h20_ h19_;try simp [F12]
      and_intros <;> first | exact GK g | apply r | omega | (simp [maxLen,F12] <;> omega)
      refine WK [(2,Lz v6),(3,AV.ptr 0 0),(4,AV.ptr 1 0),(6,AV.ptr 2 0),(9,AV.ptr 4 0),(10,AV.fn 42 [AV.ptr 4 0]),(11,Lz v13),(14,Iz v21),(15,Iz v24),(63,Lz v13),(64,Iz (v13.length : Int)),(65,Iz v21)] [(0,.cells [Iz v0,Q2 v1,Lz v2]),(1,.cells [Lz v3,Lz v4,Iz v5]),(2,.cells [Iz 0,AV.slc 3 0 3 (([] : List AaC).length) false]),(3,.grow (AaL (List.map AaC.av ([] : List AaC)))),(4,.cells [Iz v12,AV.slc 5 0 3 v22.length false]),(5,.grow (AaL (List.map AaC.av v22)))] 6 (by simp [F12]) (by simp [F12]) ?_;refine SQ [] [none,none] fun _ _ g r=>?_;try simp [F12]
      and_intros <;> first | exact GK g | apply r | omega | (simp [maxLen,F12] <;> omega)
      refine WK [(2,Lz v6),(3,AV.ptr 0 0),(4,AV.ptr 1 0),(6,AV.ptr 2 0),(9,AV.ptr 4 0),(10,AV.fn 42 [AV.ptr 4 0]),(11,Lz v13),(14,Iz v21),(15,Iz v24),(63,Lz v13),(64,Iz (v13.length : Int)),(65,Iz v21),(71,AV.bool (decide (0<v24)))] [(0,.cells [Iz v0,Q2 v1,Lz v2]),(1,.cells [Lz v3,Lz v4,Iz v5]),(2,.cells [Iz 0,AV.slc 3 0 3 (([] : List AaC).length) false]),(3,.grow (AaL (List.map AaC.av ([] : List AaC)))),(4,.cells [Iz v12,AV.slc 5 0 3 v22.length false]),(5,.grow (AaL (List.map AaC.av v22)))] 6 (by simp [F12]) (by simp [F12]) ?_;by_cases h21 : 0<v24
      ·replace hF:=AaX h21 hF;have h21_:=h21;try simp at h21_
       have F13:=A3 F12 h21 h21_;refine CT (by simp [F13] <;> omega) ?_;refine RG [] [none,none,none,none,none,none,none,none] fun _ _ g r=>?_;try simp [F13]
       and_intros
       try any_goals first | omega | (simp [maxLen,F13] <;> omega)
       obtain ⟨v25,h22,hF⟩:=AaO hF;refine AC (AcV k _ _ h22) (.cons (.same (by simp [F13])) .nil) ?_;try simp [F13]
       and_intros
       try any_goals first | omega | (simp [maxLen,F13] <;> omega)
       obtain ⟨v26,h23,hF⟩:=AaO hF;refine AC (AgA k _ _ h23) (.cons (.same (by simp [F13])) .nil) ?_;try simp [F13]
       and_intros
       try any_goals first | omega | (simp [maxLen,F13] <;> omega)
       obtain ⟨v27,h24,hF⟩:=AaO hF;refine Aa1 (AcU k _ _ _ _ _ _ h24) (by simp) [4,5] [] [4,5] rfl (.cons (.same (by simp [F13])) (.cons (.same (by simp [F13])) (.cons (.same (by simp [F13])) (.cons (.same (by simp [F13])) .nil)))) (by simp [F13]) (by decide) (by simp) (by simp) (.inl rfl) (by simp) (by simp) ?_;try simp [F13]
       and_intros <;> first | exact GK g | apply r | omega | (simp [maxLen,F13] <;> omega)
       refine hK540 _ _ _ ?_;refine RN h0 [(0,0),(1,1),(2,2),(3,3),(4,4),(5,6)] [(2,Lz v6),(3,AV.ptr 0 0),(4,AV.ptr 1 0),(6,AV.ptr 2 0),(9,AV.ptr 4 0),(10,AV.fn 42 [AV.ptr 4 0]),(11,Lz v13),(63,Lz v13),(64,Iz (v13.length : Int)),(65,Iz v21)] [(0,.cells [Iz v0,Q2 v1,Lz v2]),(1,.cells [Lz v3,Lz v4,Iz v5]),(2,.cells [Iz 0,AV.slc 3 0 3 (([] : List AaC).length) false]),(3,.grow (AaL (List.map AaC.av ([] : List AaC)))),(4,.cells [Iz v12,AV.slc 5 0 3 v27.length false]),(5,.grow (AaL (List.map AaC.av v27)))] 6 (by simp [F13]) (by simp [F13]) ?_;exact JN (v27) hF (by simp [F13]) (by simp [F13])
      ·replace hF:=AaY h21 hF;have h21_:=h21;try simp at h21_
       have F14:=A3 F12 h21 h21_;refine CF (by simp [F14] <;> omega) ?_;refine AW.skip ?_;refine hK540 _ _ _ ?_;exact JN (v22) hF (by simp [F14]) (by simp [F14])
     ·rintro v23 hF
      try dsimp only at hF
      unfold AaN.J4 at hF;refine RG [] [none,none] fun _ _ g r=>?_;try simp [F11]
      and_intros <;> first | exact GK g | apply r | omega | (simp [maxLen,F11] <;> omega)
      refine hK533 _ _ _ ?_;exact NX (k':=n3) ((IntKind.wrap .i64 (v21+1),v23)) hF (by simp [F11]) (by simp [F11])
    ·replace hF:=AaY h17 hF;have h17_:=h17;try simp at h17_
     have F15:=A3 F10 h17 h17_;refine CF (by simp [F15] <;> omega) ?_;refine AW.exit ?_;try simp
     refine hK501 _ _ _ ?_;refine AW.seq fun K586 hK586=>?_;refine SQ [] [none,none,none] fun _ _ g r=>?_;try simp [F15]
     and_intros <;> first | exact GK g | apply r | omega | (simp [maxLen,F15] <;> omega)
     refine WK [(3,AV.ptr 0 0),(4,AV.ptr 1 0),(6,AV.ptr 2 0),(9,AV.ptr 4 0),(10,AV.fn 42 [AV.ptr 4 0]),(11,Lz v13),(81,Lz v6),(82,Iz (v6.length : Int)),(83,Iz 0)] [(0,.cells [Iz v0,Q2 v1,Lz v2]),(1,.cells [Lz v3,Lz v4,Iz v5]),(2,.cells [Iz 0,AV.slc 3 0 3 (([] : List AaC).length) false]),(3,.grow (AaL (List.map AaC.av ([] : List AaC)))),(4,.cells [Iz v12,AV.slc 5 0 3 v22.length false]),(5,.grow (AaL (List.map AaC.av v22)))] 6 (by simp [F15]) (by simp [F15]) ?_;refine AW.block ?_;refine AW.loopF (α:=(Int×(List AaC))) (fun n (v28,v29)=>AaN.L5 k v0 v1 v2 v5 v6 v12 v13 n v28 v29=some (v7,v8,v9)) (fun (v28,v29)=>[(3,AV.ptr 0 0),(4,AV.ptr 1 0),(6,AV.ptr 2 0),(9,AV.ptr 4 0),(10,AV.fn 42 [AV.ptr 4 0]),(11,Lz v13),(81,Lz v6),(82,Iz (v6.length : Int)),(83,Iz v28)]) (fun (v28,v29)=>[(0,.cells [Iz v0,Q2 v1,Lz v2]),(1,.cells [Lz v3,Lz v4,Iz v5]),(2,.cells [Iz 0,AV.slc 3 0 3 (([] : List AaC).length) false]),(3,.grow (AaL (List.map AaC.av ([] : List AaC)))),(4,.cells [Iz v12,AV.slc 5 0 3 v29.length false]),(5,.grow (AaL (List.map AaC.av v29)))]) 6 k ((0,v22)) hF (by simp [F15]) (by simp [F15]) (by simp) ?_;rintro (_|n5) ⟨v28,v29⟩ hF K618 hK618
     ·try dsimp only at hF
      rw [AaN.L5] at hF; cases hF
     try dsimp only at hF
     rw [AaN.L5] at hF;refine SQ [] [none] fun _ _ g r=>?_;try simp [F15]
     and_intros <;> first | exact GK g | apply r | omega | (simp [maxLen,F15] <;> omega)
     refine WK [(3,AV.ptr 0 0),(4,AV.ptr 1 0),(6,AV.ptr 2 0),(9,AV.ptr 4 0),(10,AV.fn 42 [AV.ptr 4 0]),(11,Lz v13),(81,Lz v6),(82,Iz (v6.length : Int)),(83,Iz v28),(84,AV.bool (decide (v28<(v6.length : Int))))] [(0,.cells [Iz v0,Q2 v1,Lz v2]),(1,.cells [Lz v3,Lz v4,Iz v5]),(2,.cells [Iz 0,AV.slc 3 0 3 (([] : List AaC).length) false]),(3,.grow (AaL (List.map AaC.av ([] : List AaC)))),(4,.cells [Iz v12,AV.slc 5 0 3 v29.length false]),(5,.grow (AaL (List.map AaC.av v29)))] 6 (by simp [F15]) (by simp [F15]) ?_;refine AW.seq fun K620 hK620=>?_;by_cases h25 : v28<(v6.length : Int)
     ·replace hF:=AaX h25 hF;have h25_:=h25;try simp at h25_
      have F16:=A3 F15 h25 h25_;refine CT (by simp [F16] <;> omega) ?_;refine AW.skip ?_;refine hK620 _ _ _ ?_;refine AW.midF (α:=(List AaC)) (fun v30=>AaN.J6 k v28 (fun v28_ v29_=>AaN.L5 k v0 v1 v2 v5 v6 v12 v13 n5 v28_ v29_) v30=some (v7,v8,v9)) (fun v30=>[(3,AV.ptr 0 0),(4,AV.ptr 1 0),(6,AV.ptr 2 0),(9,AV.ptr 4 0),(10,AV.fn 42 [AV.ptr 4 0]),(11,Lz v13),(81,Lz v6),(82,Iz (v6.length : Int)),(83,Iz v28)]) (fun v30=>[(0,.cells [Iz v0,Q2 v1,Lz v2]),(1,.cells [Lz v3,Lz v4,Iz v5]),(2,.cells [Iz 0,AV.slc 3 0 3 (([] : List AaC).length) false]),(3,.grow (AaL (List.map AaC.av ([] : List AaC)))),(4,.cells [Iz v12,AV.slc 5 0 3 v30.length false]),(5,.grow (AaL (List.map AaC.av v30)))]) 6 (fun K625 hK625=>?_) ?_
      ·refine AW.block ?_;refine SQ [] [none,none,none] fun _ _ g r=>?_;obtain ⟨v31,h26,h27,h28,hF⟩:=Aaa hF;have h28_:=Aao h28;try simp at h28_
       have h27_:=h27;try simp at h27_
       have F17:=A6 F16 h26 h27 h28 h28_ h27_;try simp [F17]
       and_intros <;> first | exact GK g | apply r | omega | (simp [maxLen,F17] <;> omega)
       refine WK [(3,AV.ptr 0 0),(4,AV.ptr 1 0),(6,AV.ptr 2 0),(9,AV.ptr 4 0),(10,AV.fn 42 [AV.ptr 4 0]),(11,Lz v13),(17,Iz v31),(81,Lz v6),(82,Iz (v6.length : Int)),(83,Iz v28)] [(0,.cells [Iz v0,Q2 v1,Lz v2]),(1,.cells [Lz v3,Lz v4,Iz v5]),(2,.cells [Iz 0,AV.slc 3 0 3 (([] : List AaC).length) false]),(3,.grow (AaL (List.map AaC.av ([] : List AaC)))),(4,.cells [Iz v12,AV.slc 5 0 3 v29.length false]),(5,.grow (AaL (List.map AaC.av v29)))] 6 (by simp [F17]) (by simp [F17]) ?_;refine SQ [] [none,none,none,none,none] fun _ _ g r=>?_;obtain ⟨v32,h29,h30,h31,hF⟩:=Aaa hF;have h31_:=Aao h31;try simp at h31_
       have h30_:=h30;try simp at h30_
       have F18:=A6 F17 h29 h30 h31 h31_ h30_;try simp [F18]
       and_intros <;> first | exact GK g | apply r | omega | (simp [maxLen,F18] <;> omega)
       refine WK [(3,AV.ptr 0 0),(4,AV.ptr 1 0),(6,AV.ptr 2 0),(9,AV.ptr 4 0),(10,AV.fn 42 [AV.ptr 4 0]),(11,Lz v13),(17,Iz v31),(81,Lz v6),(82,Iz (v6.length : Int)),(83,Iz v28),(91,AV.bool (decide (0<v32)))] [(0,.cells [Iz v0,Q2 v1,Lz v2]),(1,.cells [Lz v3,Lz v4,Iz v5]),(2,.cells [Iz 0,AV.slc 3 0 3 (([] : List AaC).length) false]),(3,.grow (AaL (List.map AaC.av ([] : List AaC)))),(4,.cells [Iz v12,AV.slc 5 0 3 v29.length false]),(5,.grow (AaL (List.map AaC.av v29)))] 6 (by simp [F18]) (by simp [F18]) ?_;by_cases h32 : 0<v32
       ·replace hF:=AaX h32 hF;have h32_:=h32;try simp at h32_
        have F19:=A3 F18 h32 h32_;refine CT (by simp [F19] <;> omega) ?_;refine RG [] [none,none,none,none] fun _ _ g r=>?_;try simp [F19]
        and_intros
        try any_goals first | omega | (simp [maxLen,F19] <;> omega)
        obtain ⟨v33,h33,hF⟩:=AaO hF;refine AC (AcV k _ _ h33) (.cons (.same (by simp [F19])) .nil) ?_;try simp [F19]
        and_intros
        try any_goals first | omega | (simp [maxLen,F19] <;> omega)
        obtain ⟨v34,h34,hF⟩:=AaO hF;refine Aa1 (AcU k _ _ _ _ _ _ h34) (by simp) [4,5] [] [4,5] rfl (.cons (.same (by simp [F19])) (.cons (.same (by simp [F19])) (.cons (.same (by simp [F19])) (.cons (.same (by simp [F19])) .nil)))) (by simp [F19]) (by decide) (by simp) (by simp) (.inl rfl) (by simp) (by simp) ?_;try simp [F19]
        and_intros <;> first | exact GK g | apply r | omega | (simp [maxLen,F19] <;> omega)
        refine hK625 _ _ _ ?_;refine RN h0 [(0,0),(1,1),(2,2),(3,3),(4,4),(5,6)] [(3,AV.ptr 0 0),(4,AV.ptr 1 0),(6,AV.ptr 2 0),(9,AV.ptr 4 0),(10,AV.fn 42 [AV.ptr 4 0]),(11,Lz v13),(81,Lz v6),(82,Iz (v6.length : Int)),(83,Iz v28)] [(0,.cells [Iz v0,Q2 v1,Lz v2]),(1,.cells [Lz v3,Lz v4,Iz v5]),(2,.cells [Iz 0,AV.slc 3 0 3 (([] : List AaC).length) false]),(3,.grow (AaL (List.map AaC.av ([] : List AaC)))),(4,.cells [Iz v12,AV.slc 5 0 3 v34.length false]),(5,.grow (AaL (List.map AaC.av v34)))] 6 (by simp [F19]) (by simp [F19]) ?_;exact JN (v34) hF (by simp [F19]) (by simp [F19])
       ·replace hF:=AaY h32 hF;have h32_:=h32;try simp at h32_
        have F20:=A3 F18 h32 h32_;refine CF (by simp [F20] <;> omega) ?_;refine AW.skip ?_;refine hK625 _ _ _ ?_;exact JN (v29) hF (by simp [F20]) (by simp [F20])
      ·rintro v30 hF
       try dsimp only at hF
       unfold AaN.J6 at hF;refine RG [] [none,none] fun _ _ g r=>?_;try simp [F16]
       and_intros <;> first | exact GK g | apply r | omega | (simp [maxLen,F16] <;> omega)
       refine hK618 _ _ _ ?_;exact NX (k':=n5) ((IntKind.wrap .i64 (v28+1),v30)) hF (by simp [F16]) (by simp [F16])
     ·replace hF:=AaY h25 hF;have h25_:=h25;try simp at h25_
      have F21:=A3 F15 h25 h25_;refine CF (by simp [F21] <;> omega) ?_;refine AW.exit ?_;try simp
      refine hK586 _ _ _ ?_;refine AW.seq fun K671 hK671=>?_;refine SQ [] [none,none,none,none,none,none,none] fun _ _ g r=>?_;try simp [F21]
      and_intros
      try any_goals first | omega | (simp [maxLen,F21] <;> omega)
      obtain ⟨v35,v36,v37,h35,hF⟩:=Ad3 hF;refine AC (AeT k _ _ _ _ _ _ _ h35) (.cons (.same (by simp [F21])) (.cons (.same (by simp [F21])) .nil)) ?_;try simp [F21]
      and_intros <;> first | exact GK g | apply r | omega | (simp [maxLen,F21] <;> omega)
      refine WK [(6,AV.ptr 2 0),(9,AV.ptr 4 0),(10,AV.fn 42 [AV.ptr 4 0]),(11,Lz v13),(101,Q2 v36),(102,Iz (v36.length : Int)),(103,Iz 0)] [(2,.cells [Iz 0,AV.slc 3 0 3 (([] : List AaC).length) false]),(3,.grow (AaL (List.map AaC.av ([] : List AaC)))),(4,.cells [Iz v12,AV.slc 5 0 3 v29.length false]),(5,.grow (AaL (List.map AaC.av v29)))] 7 (by simp [F21]) (by simp [F21]) ?_;refine AW.block ?_;refine RM h0 [(0,2),(1,3),(2,4),(3,5)] [(6,AV.ptr 0 0),(9,AV.ptr 2 0),(10,AV.fn 42 [AV.ptr 2 0]),(11,Lz v13),(101,Q2 v36),(102,Iz (v36.length : Int)),(103,Iz 0)] [(0,.cells [Iz 0,AV.slc 1 0 3 (([] : List AaC).length) false]),(1,.grow (AaL (List.map AaC.av ([] : List AaC)))),(2,.cells [Iz v12,AV.slc 3 0 3 v29.length false]),(3,.grow (AaL (List.map AaC.av v29)))] 4 (by simp [F21]) (by simp [F21]) ?_;refine AW.loopF (α:=(Int×(List AaC))) (fun n (v38,v39)=>AaN.L7 k v12 v13 v36 n v38 v39=some (v7,v8,v9)) (fun (v38,v39)=>[(6,AV.ptr 0 0),(9,AV.ptr 2 0),(10,AV.fn 42 [AV.ptr 2 0]),(11,Lz v13),(101,Q2 v36),(102,Iz (v36.length : Int)),(103,Iz v38)]) (fun (v38,v39)=>[(0,.cells [Iz 0,AV.slc 1 0 3 (([] : List AaC).length) false]),(1,.grow (AaL (List.map AaC.av ([] : List AaC)))),(2,.cells [Iz v12,AV.slc 3 0 3 v39.length false]),(3,.grow (AaL (List.map AaC.av v39)))]) 4 k ((0,v29)) hF (by simp [F21]) (by simp [F21]) (by simp) ?_;rintro (_|n7) ⟨v38,v39⟩ hF K703 hK703
      ·try dsimp only at hF
       rw [AaN.L7] at hF; cases hF
      try dsimp only at hF
      rw [AaN.L7] at hF;refine SQ [] [none] fun _ _ g r=>?_;try simp [F21]
      and_intros <;> first | exact GK g | apply r | omega | (simp [maxLen,F21] <;> omega)
      refine WK [(6,AV.ptr 0 0),(9,AV.ptr 2 0),(10,AV.fn 42 [AV.ptr 2 0]),(11,Lz v13),(101,Q2 v36),(102,Iz (v36.length : Int)),(103,Iz v38),(104,AV.bool (decide (v38<(v36.length : Int))))] [(0,.cells [Iz 0,AV.slc 1 0 3 (([] : List AaC).length) false]),(1,.grow (AaL (List.map AaC.av ([] : List AaC)))),(2,.cells [Iz v12,AV.slc 3 0 3 v39.length false]),(3,.grow (AaL (List.map AaC.av v39)))] 4 (by simp [F21]) (by simp [F21]) ?_;refine AW.seq fun K705 hK705=>?_;by_cases h36 : v38<(v36.length : Int)
      ·replace hF:=AaX h36 hF;have h36_:=h36;try simp at h36_
       have F22:=A3 F21 h36 h36_;refine CT (by simp [F22] <;> omega) ?_;refine AW.skip ?_;refine hK705 _ _ _ ?_;refine AW.midF (α:=(List AaC)) (fun v40=>AaN.J8 k v38 (fun v38_ v39_=>AaN.L7 k v12 v13 v36 n7 v38_ v39_) v40=some (v7,v8,v9)) (fun v40=>[(6,AV.ptr 0 0),(9,AV.ptr 2 0),(10,AV.fn 42 [AV.ptr 2 0]),(11,Lz v13),(101,Q2 v36),(102,Iz (v36.length : Int)),(103,Iz v38)]) (fun v40=>[(0,.cells [Iz 0,AV.slc 1 0 3 (([] : List AaC).length) false]),(1,.grow (AaL (List.map AaC.av ([] : List AaC)))),(2,.cells [Iz v12,AV.slc 3 0 3 v40.length false]),(3,.grow (AaL (List.map AaC.av v40)))]) 4 (fun K710 hK710=>?_) ?_
       ·refine AW.block ?_;refine SQ [] [none,none,none,none] fun _ _ g r=>?_;obtain ⟨v41,h37,h38,h39,hF⟩:=Aaa hF;have h39_:=Aao h39;try simp at h39_
        have h38_:=h38;try simp at h38_
        have F23:=A6 F22 h37 h38 h39 h39_ h38_;try simp [F23]
        and_intros <;> first | exact GK g | apply r | omega | (simp [maxLen,F23] <;> omega)
        refine WK [(6,AV.ptr 0 0),(9,AV.ptr 2 0),(10,AV.fn 42 [AV.ptr 2 0]),(11,Lz v13),(19,AV.ptr 4 0),(101,Q2 v36),(102,Iz (v36.length : Int)),(103,Iz v38)] [(0,.cells [Iz 0,AV.slc 1 0 3 (([] : List AaC).length) false]),(1,.grow (AaL (List.map AaC.av ([] : List AaC)))),(2,.cells [Iz v12,AV.slc 3 0 3 v39.length false]),(3,.grow (AaL (List.map AaC.av v39))),(4,.cells [Iz v41.From,Iz v41.To,Iz v41.Level])] 5 (by simp [F23]) (by simp [F23]) ?_;refine SQ [] [none,none,none,none,none,none] fun _ _ g r=>?_;obtain ⟨v42,h40,h41,h42,hF⟩:=Aaa hF;have h42_:=Aao h42;try simp at h42_
        have h41_:=h41;try simp at h41_
        have F24:=A6 F23 h40 h41 h42 h42_ h41_;try simp [F24]
        and_intros <;> first | exact GK g | apply r | omega | (simp [maxLen,F24] <;> omega)
        refine WK [(6,AV.ptr 0 0),(9,AV.ptr 2 0),(10,AV.fn 42 [AV.ptr 2 0]),(11,Lz v13),(19,AV.ptr 4 0),(101,Q2 v36),(102,Iz (v36.length : Int)),(103,Iz v38),(112,AV.bool (decide (0<v42)))] [(0,.cells [Iz 0,AV.slc 1 0 3 (([] : List AaC).length) false]),(1,.grow (AaL (List.map AaC.av ([] : List AaC)))),(2,.cells [Iz v12,AV.slc 3 0 3 v39.length false]),(3,.grow (AaL (List.map AaC.av v39))),(4,.cells [Iz v41.From,Iz v41.To,Iz v41.Level])] 5 (by simp [F24]) (by simp [F24]) ?_;by_cases h43 : 0<v42
        ·replace hF:=AaX h43 hF;have h43_:=h43;try simp at h43_
         have F25:=A3 F24 h43 h43_;refine CT (by simp [F25] <;> omega) ?_;refine RG [] [none,none,none,none,none,none,none,none] fun _ _ g r=>?_;try simp [F25]
         and_intros
         try any_goals first | omega | (simp [maxLen,F25] <;> omega)
         obtain ⟨v43,h44,hF⟩:=AaO hF;refine AC (AgA k _ _ h44) (.cons (.same (by simp [F25])) .nil) ?_;try simp [F25]
         and_intros
         try any_goals first | omega | (simp [maxLen,F25] <;> omega)
         obtain ⟨v44,h45,hF⟩:=AaO hF;refine AC (AcV k _ _ h45) (.cons (.same (by simp [F25])) .nil) ?_;try simp [F25]
         and_intros
         try any_goals first | omega | (simp [maxLen,F25] <;> omega)
         obtain ⟨v45,h46,hF⟩:=AaO hF;refine Aa1 (AcU k _ _ _ _ _ _ h46) (by simp) [2,3] [] [2,3] rfl (.cons (.same (by simp [F25])) (.cons (.same (by simp [F25])) (.cons (.same (by simp [F25])) (.cons (.same (by simp [F25])) .nil)))) (by simp [F25]) (by decide) (by simp) (by simp) (.inl rfl) (by simp) (by simp) ?_;try simp [F25]
         and_intros <;> first | exact GK g | apply r | omega | (simp [maxLen,F25] <;> omega)
         refine hK710 _ _ _ ?_;refine RN h0 [(0,0),(1,1),(2,2),(3,5)] [(6,AV.ptr 0 0),(9,AV.ptr 2 0),(10,AV.fn 42 [AV.ptr 2 0]),(11,Lz v13),(101,Q2 v36),(102,Iz (v36.length : Int)),(103,Iz v38)] [(0,.cells [Iz 0,AV.slc 1 0 3 (([] : List AaC).length) false]),(1,.grow (AaL (List.map AaC.av ([] : List AaC)))),(2,.cells [Iz v12,AV.slc 3 0 3 v45.length false]),(3,.grow (AaL (List.map AaC.av v45)))] 4 (by simp [F25]) (by simp [F25]) ?_;exact JN (v45) hF (by simp [F25]) (by simp [F25])
        ·replace hF:=AaY h43 hF;have h43_:=h43;try simp at h43_
         have F26:=A3 F24 h43 h43_;refine CF (by simp [F26] <;> omega) ?_;refine AW.skip ?_;refine hK710 _ _ _ ?_;refine RN h0 [(0,0),(1,1),(2,2),(3,3)] [(6,AV.ptr 0 0),(9,AV.ptr 2 0),(10,AV.fn 42 [AV.ptr 2 0]),(11,Lz v13),(101,Q2 v36),(102,Iz (v36.length : Int)),(103,Iz v38)] [(0,.cells [Iz 0,AV.slc 1 0 3 (([] : List AaC).length) false]),(1,.grow (AaL (List.map AaC.av ([] : List AaC)))),(2,.cells [Iz v12,AV.slc 3 0 3 v39.length false]),(3,.grow (AaL (List.map AaC.av v39)))] 4 (by simp [F26]) (by simp [F26]) ?_;exact JN (v39) hF (by simp [F26]) (by simp [F26])
       ·rintro v40 hF
        try dsimp only at hF
        unfold AaN.J8 at hF;refine RG [] [none,none] fun _ _ g r=>?_;try simp [F22]
        and_intros <;> first | exact GK g | apply r | omega | (simp [maxLen,F22] <;> omega)
        refine hK703 _ _ _ ?_;exact NX (k':=n7) ((IntKind.wrap .i64 (v38+1),v40)) hF (by simp [F22]) (by simp [F22])
      ·replace hF:=AaY h36 hF;have h36_:=h36;try simp at h36_
       have F27:=A3 F21 h36 h36_;refine CF (by simp [F27] <;> omega) ?_;refine AW.exit ?_;try simp
       refine hK671 _ _ _ ?_;refine SQ [] [none,none,none] fun _ _ g r=>?_;try simp [F27]
       and_intros <;> first | exact GK g | apply r | omega | (simp [maxLen,F27] <;> omega)
       refine RM h0 [(0,3),(1,0)] [(6,AV.ptr 1 0),(7,Iz 0)] [(0,.grow (AaL (List.map AaC.av v39))),(1,.cells [Iz v12,AV.slc 0 0 3 v39.length false])] 2 (by simp [F27]) (by simp [F27]) ?_;simp only [Option.some.injEq,Prod.mk.injEq] at hF;obtain ⟨e0,e1,e2⟩:=hF;subst e0 e1 e2;refine AW.ret (hQ _ _ _ ?_ (AaF ?_)).1
       ·simp [Try.f15,F27]
       ·simp [F27]
theorem Ahm (k : Nat) (v0 : Int) (v1 : (List AaC)) (v2 : Int) (hF : Abc k v0 v1=some v2) :
 Aa9 Try.prog 17 [AV.agg [AV.int .i64 v0,Q0 v1]] [] (AV.int .i64 v2) []:=by
 unfold Abc at hF;refine EN Try.func17 ?_;intro c0 w0 Q h0 hQ
 refine WK [(0,AV.agg [Iz v0,Q0 v1])] [] 0 (by simp) (by simp) ?_;refine SQ [] [none,none] fun _ _ g r=>?_;try simp
 and_intros <;> first | exact GK g | apply r | omega | (simp [maxLen] <;> omega)
 refine WK [(1,AV.ptr 0 0)] [(0,.cells [Iz v0,Q0 v1])] 1 (by simp) (by simp) ?_;refine AW.seq fun K238 hK238=>?_;refine SQ [] [none,none,none,none,some (8,false),some (8,false),some (8,false),none,none,some (13,false),some (13,false),some (13,false),some (13,false),none] fun _ _ g r=>?_;by_cases h1 : v0<2
 ·replace hF:=AaX h1 hF;have h1_:=h1;try simp at h1_
  try simp [h1,h1_]
  and_intros <;> first | exact GK g | apply r | omega | (simp [h1,h1_,maxLen] <;> omega)
  refine WK [(1,AV.ptr 0 0),(18,AV.bool true)] [(0,.cells [Iz v0,Q0 v1])] 1 (by simp [h1,h1_]) (by simp [h1,h1_]) ?_;refine CT (by simp [h1,h1_]) ?_;refine SQ [] [none] fun _ _ g r=>?_;try simp [h1,h1_]
  and_intros <;> first | exact GK g | apply r | omega | (simp [h1,h1_,maxLen] <;> omega)
  refine WK [(2,Iz 16)] [] 1 (by simp [h1,h1_]) (by simp [h1,h1_]) ?_;simp only [Option.some.injEq] at hF;subst hF;refine AW.ret (hQ _ _ _ ?_ (AaF ?_)).1
  ·simp [Try.f17,h1,h1_]
  ·simp [h1,h1_]
 ·replace hF:=AaY h1 hF;have h1_:=h1;try simp at h1_
  by_cases h2 : 130<v0
  ·replace hF:=AaX h2 hF;have h2_:=h2;try simp at h2_
   have F1:=A4 h1 h1_ h2 h2_;try simp [F1]
   and_intros <;> first | exact GK g | apply r | omega | (simp [maxLen,F1] <;> omega)
   refine WK [(1,AV.ptr 0 0),(18,AV.bool true)] [(0,.cells [Iz v0,Q0 v1])] 1 (by simp [F1]) (by simp [F1]) ?_;refine CT (by simp [F1]) ?_;refine SQ [] [none] fun _ _ g r=>?_;try simp [F1]
   and_intros <;> first | exact GK g | apply r | omega | (simp [maxLen,F1] <;> omega)
   refine WK [(2,Iz 16)] [] 1 (by simp [F1]) (by simp [F1]) ?_;simp only [Option.some.injEq] at hF;subst hF;refine AW.ret (hQ _ _ _ ?_ (AaF ?_)).1
   ·simp [Try.f17,F1]
   ·simp [F1]
  ·replace hF:=AaY h2 hF;have h2_:=h2;try simp at h2_
   have F2:=A4 h1 h1_ h2 h2_;try simp [F2]
   and_intros <;> first | exact GK g | apply r | omega | (simp [maxLen,F2] <;> omega)
   refine WK [(1,AV.ptr 0 0),(18,AV.bool (decide (1200<(v1.length : Int))))] [(0,.cells [Iz v0,Q0 v1])] 1 (by simp [F2]) (by simp [F2]) ?_;by_cases h3 : 1200<(v1.length : Int)
   ·replace hF:=AaX h3 hF;have h3_:=h3;try simp at h3_
    have F3:=A3 F2 h3 h3_;refine CT (by simp [F3] <;> omega) ?_;refine SQ [] [none] fun _ _ g r=>?_;try simp [F3]
    and_intros <;> first | exact GK g | apply r | omega | (simp [maxLen,F3] <;> omega)
    refine WK [(2,Iz 16)] [] 1 (by simp [F3]) (by simp [F3]) ?_;simp only [Option.some.injEq] at hF;subst hF;refine AW.ret (hQ _ _ _ ?_ (AaF ?_)).1
    ·simp [Try.f17,F3]
    ·simp [F3]
   ·replace hF:=AaY h3 hF;have h3_:=h3;try simp at h3_
    have F4:=A3 F2 h3 h3_;refine CF (by simp [F4] <;> omega) ?_;refine AW.skip ?_;refine hK238 _ _ _ ?_;refine AW.seq fun K353 hK353=>?_;refine SQ [] [none] fun _ _ g r=>?_;try simp [F4]
    and_intros <;> first | exact GK g | apply r | omega | (simp [maxLen,F4] <;> omega)
    refine WK [(1,AV.ptr 0 0),(3,Iz 0)] [(0,.cells [Iz v0,Q0 v1])] 1 (by simp [F4]) (by simp [F4]) ?_;refine AW.block ?_;refine AW.loopF (α:=Int) (fun n v3=>Abc.L1 k v0 v1 n v3=some v2) (fun v3=>[(1,AV.ptr 0 0),(3,Iz v3)]) (fun v3=>[(0,.cells [Iz v0,Q0 v1])]) 1 k (0) hF (by simp [F4]) (by simp [F4]) (by simp) ?_;rintro (_|n1) v3 hF K436 hK436
    ·try dsimp only at hF
     rw [Abc.L1] at hF; cases hF
    try dsimp only at hF
    rw [Abc.L1] at hF;refine AW.seq fun K438 hK438=>?_;refine SQ [] [none,none,none,none,none] fun _ _ g r=>?_;try simp [F4]
    and_intros <;> first | exact GK g | apply r | omega | (simp [maxLen,F4] <;> omega)
    refine WK [(1,AV.ptr 0 0),(3,Iz v3),(23,AV.bool (decide (v3<(v1.length : Int))))] [(0,.cells [Iz v0,Q0 v1])] 1 (by simp [F4]) (by simp [F4]) ?_;by_cases h4 : v3<(v1.length : Int)
    ·replace hF:=AaX h4 hF;have h4_:=h4;try simp at h4_
     have F5:=A3 F4 h4 h4_;refine CT (by simp [F5] <;> omega) ?_;refine AW.skip ?_;refine hK438 _ _ _ ?_;refine AW.seq fun K451 hK451=>?_;refine AW.block ?_;refine SQ [] [none,none,none,none,none,none,none] fun _ _ g r=>?_;obtain ⟨v4,h5,h6,h7,hF⟩:=Aaa hF;have h7_:=Aao h7;try simp at h7_
     have h6_:=h6;try simp at h6_
     have F6:=A6 F5 h5 h6 h7 h7_ h6_;try simp [F6]
     and_intros <;> first | exact GK g | apply r | omega | (simp [maxLen,F6] <;> omega)
     refine WK [(1,AV.ptr 0 0),(3,Iz v3),(4,AV.ptr 1 0)] [(0,.cells [Iz v0,Q0 v1]),(1,.cells [Iz v4.From,Iz v4.To,Iz v4.Cap])] 2 (by simp [F6]) (by simp [F6]) ?_;refine SQ [] [none,none,none,none,some (34,false),some (34,false),some (34,false),some (34,false),some (34,false),none,none,some (41,false),some (41,false),some (41,false),none,none,some (46,false),some (46,false),some (46,false),some (46,false),some (46,false),none,none,some (53,false),some (53,false),some (53,false),some (53,false),some (53,false),none,none,some (60,false),some (60,false),some (60,false),none,none,some (65,false),some (65,false),some (65,false),none,none,some (70,false),some (70,false),some (70,false),none,none,some (75,false),some (75,false),some (75,false),none] fun _ _ g r=>?_;by_cases h8 : v4.From<0
     ·replace hF:=AaX h8 hF;have h8_:=h8;try simp at h8_
      have F7:=A3 F6 h8 h8_;try simp [F7]
      and_intros <;> first | exact GK g | apply r | omega | (simp [maxLen,F7] <;> omega)
      refine WK [(1,AV.ptr 0 0),(3,Iz v3),(79,AV.bool true)] [(0,.cells [Iz v0,Q0 v1])] 2 (by simp [F7]) (by simp [F7]) ?_;refine CT (by simp [F7]) ?_;refine SQ [] [none] fun _ _ g r=>?_;try simp [F7]
      and_intros <;> first | exact GK g | apply r | omega | (simp [maxLen,F7] <;> omega)
      refine WK [(2,Iz 16)] [] 2 (by simp [F7]) (by simp [F7]) ?_;simp only [Option.some.injEq] at hF;subst hF;refine AW.ret (hQ _ _ _ ?_ (AaF ?_)).1
      ·simp [Try.f17,F7]
      ·simp [F7]
     ·replace hF:=AaY h8 hF;have h8_:=h8;try simp at h8_
      by_cases h9 : v0≤v4.From
      ·replace hF:=AaX h9 hF;have h9_:=h9;try simp at h9_
       have F8:=A5 F6 h8 h8_ h9 h9_;try simp [F8]
       and_intros <;> first | exact GK g | apply r | omega | (simp [maxLen,F8] <;> omega)
       refine WK [(1,AV.ptr 0 0),(3,Iz v3),(79,AV.bool true)] [(0,.cells [Iz v0,Q0 v1])] 2 (by simp [F8]) (by simp [F8]) ?_;refine CT (by simp [F8]) ?_;refine SQ [] [none] fun _ _ g r=>?_;try simp [F8]
       and_intros <;> first | exact GK g | apply r | omega | (simp [maxLen,F8] <;> omega)
       refine WK [(2,Iz 16)] [] 2 (by simp [F8]) (by simp [F8]) ?_;simp only [Option.some.injEq] at hF;subst hF;refine AW.ret (hQ _ _ _ ?_ (AaF ?_)).1
       ·simp [Try.f17,F8]
       ·simp [F8]
      ·replace hF:=AaY h9 hF;have h9_:=h9;try simp at h9_
       by_cases h10 : v4.To<0
       ·replace hF:=AaX h10 hF;have h10_:=h10;try simp at h10_
        have F9:=A7 F6 h8 h8_ h9 h9_ h10 h10_;try simp [F9]
        and_intros <;> first | exact GK g | apply r | omega | (simp [maxLen,F9] <;> omega)
        refine WK [(1,AV.ptr 0 0),(3,Iz v3),(79,AV.bool true)] [(0,.cells [Iz v0,Q0 v1])] 2 (by simp [F9]) (by simp [F9]) ?_;refine CT (by simp [F9]) ?_;refine SQ [] [none] fun _ _ g r=>?_;try simp [F9]
        and_intros <;> first | exact GK g | apply r | omega | (simp [maxLen,F9] <;> omega)
        refine WK [(2,Iz 16)] [] 2 (by simp [F9]) (by simp [F9]) ?_;simp only [Option.some.injEq] at hF;subst hF;refine AW.ret (hQ _ _ _ ?_ (AaF ?_)).1
        ·simp [Try.f17,F9]
        ·simp [F9]
       ·replace hF:=AaY h10 hF;have h10_:=h10;try simp at h10_
        by_cases h11 : v0≤v4.To
        ·replace hF:=AaX h11 hF;have h11_:=h11;try simp at h11_
         have F10:=A9 F6 h8 h8_ h9 h9_ h10 h10_ h11 h11_;try simp [F10]
         and_intros <;> first | exact GK g | apply r | omega | (simp [maxLen,F10] <;> omega)
         refine WK [(1,AV.ptr 0 0),(3,Iz v3),(79,AV.bool true)] [(0,.cells [Iz v0,Q0 v1])] 2 (by simp [F10]) (by simp [F10]) ?_;refine CT (by simp [F10]) ?_;refine SQ [] [none] fun _ _ g r=>?_;try simp [F10]
         and_intros <;> first | exact GK g | apply r | omega | (simp [maxLen,F10] <;> omega)
         refine WK [(2,Iz 16)] [] 2 (by simp [F10]) (by simp [F10]) ?_;simp only [Option.some.injEq] at hF;subst hF;refine AW.ret (hQ _ _ _ ?_ (AaF ?_)).1
         ·simp [Try.f17,F10]
         ·simp [F10]
        ·replace hF:=AaY h11 hF;have h11_:=h11;try simp at h11_
         by_cases h12 : v4.From=v4.To
         ·replace hF:=AaX h12 hF;have h12q : v4.From=v4.To:=h12;have h12_:=Abx h12q;have h12__:=Abw h12q;have F11:=A9 F6 h8 h8_ h9 h9_ h10 h10_ h11 (A3 h11_ h12_ h12__);try simp [F11]
          and_intros <;> first | exact GK g | apply r | omega | (simp [maxLen,F11] <;> omega)
          refine WK [(1,AV.ptr 0 0),(3,Iz v3),(79,AV.bool true)] [(0,.cells [Iz v0,Q0 v1])] 2 (by simp [F11]) (by simp [F11]) ?_;refine CT (by simp [F11]) ?_;refine SQ [] [none] fun _ _ g r=>?_;try simp [F11]
          and_intros <;> first | exact GK g | apply r | omega | (simp [maxLen,F11] <;> omega)
          refine WK [(2,Iz 16)] [] 2 (by simp [F11]) (by simp [F11]) ?_;simp only [Option.some.injEq] at hF;subst hF;refine AW.ret (hQ _ _ _ ?_ (AaF ?_)).1
          ·simp [Try.f17,F11]
          ·simp [F11]
         ·replace hF:=AaY h12 hF;have h12_:=Abo h12;have h12__:=Abt h12;by_cases h13 : v4.To=0
          ·replace hF:=AaX h13 hF;have h13q : v4.To=0:=h13;have h13_:=Abx h13q;have h13__:=Abw h13q;have h13_h10:=h10;rw [h13q] at h13_h10;have h13_h11:=h11;rw [h13q] at h13_h11;have h13__h12:=h12_;rw [h13q] at h13__h12;have h13___h12:=h12__;rw [h13q] at h13___h12;have F12:=A9 F6 h8 h8_ h9 h9_ h10 h10_ h11 (A9 h11_ h12 h12_ h12__ h13_ h13__ h13q h13_h10 (A3 h13_h11 h13__h12 h13___h12));try simp [F12]
           and_intros <;> first | exact GK g | apply r | omega | (simp [maxLen,F12] <;> omega)
           refine WK [(1,AV.ptr 0 0),(3,Iz v3),(79,AV.bool true)] [(0,.cells [Iz v0,Q0 v1])] 2 (by simp [F12]) (by simp [F12]) ?_;refine CT (by simp [F12]) ?_;refine SQ [] [none] fun _ _ g r=>?_;try simp [F12]
           and_intros <;> first | exact GK g | apply r | omega | (simp [maxLen,F12] <;> omega)
           refine WK [(2,Iz 16)] [] 2 (by simp [F12]) (by simp [F12]) ?_;simp only [Option.some.injEq] at hF;subst hF;refine AW.ret (hQ _ _ _ ?_ (AaF ?_)).1
           ·simp [Try.f17,F12]
           ·simp [F12]
          ·replace hF:=AaY h13 hF;have h13_:=Abo h13;have h13__:=Abt h13;by_cases h14 : v4.From=1
           ·replace hF:=AaX h14 hF;have h14q : v4.From=1:=h14;have h14_:=Abx h14q;have h14__:=Abw h14q;have h14_h8:=h8;rw [h14q] at h14_h8;have h14_h9:=h9;rw [h14q] at h14_h9;have h14__h12:=h12_;rw [h14q] at h14__h12;have h14___h12:=h12__;rw [h14q] at h14___h12;have F13:=A9 F6 h8 h8_ h9 h9_ h10 h10_ h11 (A9 h11_ h12 h12_ h12__ h13 h13_ h13__ h14_ (A6 h14__ h14q h14_h8 h14_h9 h14__h12 h14___h12));try simp [F13]
            and_intros <;> first | exact GK g | apply r | omega | (simp [maxLen,F13] <;> omega)
            refine WK [(1,AV.ptr 0 0),(3,Iz v3),(79,AV.bool true)] [(0,.cells [Iz v0,Q0 v1])] 2 (by simp [F13]) (by simp [F13]) ?_;refine CT (by simp [F13]) ?_;refine SQ [] [none] fun _ _ g r=>?_;try simp [F13]
            and_intros <;> first | exact GK g | apply r | omega | (simp [maxLen,F13] <;> omega)
            refine WK [(2,Iz 16)] [] 2 (by simp [F13]) (by simp [F13]) ?_;simp only [Option.some.injEq] at hF;subst hF;refine AW.ret (hQ _ _ _ ?_ (AaF ?_)).1
            ·simp [Try.f17,F13]
            ·simp [F13]
           ·replace hF:=AaY h14 hF;have h14_:=Abo h14;have h14__:=Abt h14;by_cases h15 : v4.Cap<0
            ·replace hF:=AaX h15 hF;have h15_:=h15;try simp at h15_
             have F14:=A9 F6 h8 h8_ h9 h9_ h10 h10_ h11 (A9 h11_ h12 h12_ h12__ h13 h13_ h13__ h14 (A4 h14_ h14__ h15 h15_));try simp [F14]
             and_intros <;> first | exact GK g | apply r | omega | (simp [maxLen,F14] <;> omega)
             refine WK [(1,AV.ptr 0 0),(3,Iz v3),(79,AV.bool true)] [(0,.cells [Iz v0,Q0 v1])] 2 (by simp [F14]) (by simp [F14]) ?_;refine CT (by simp [F14]) ?_;refine SQ [] [none] fun _ _ g r=>?_;try simp [F14]
             and_intros <;> first | exact GK g | apply r | omega | (simp [maxLen,F14] <;> omega)
             refine WK [(2,Iz 16)] [] 2 (by simp [F14]) (by simp [F14]) ?_;simp only [Option.some.injEq] at hF;subst hF;refine AW.ret (hQ _ _ _ ?_ (AaF ?_)).1
             ·simp [Try.f17,F14]
             ·simp [F14]
            ·replace hF:=AaY h15 hF;have h15_:=h15;try simp at h15_
             have F15:=A9 F6 h8 h8_ h9 h9_ h10 h10_ h11 (A9 h11_ h12 h12_ h12__ h13 h13_ h13__ h14 (A4 h14_ h14__ h15 h15_));try simp [F15]
             and_intros <;> first | exact GK g | apply r | omega | (simp [maxLen,F15] <;> omega)
             refine WK [(1,AV.ptr 0 0),(3,Iz v3),(79,AV.bool (decide (1048576<v4.Cap)))] [(0,.cells [Iz v0,Q0 v1])] 2 (by simp [F15]) (by simp [F15]) ?_;by_cases h16 : 1048576<v4.Cap
             ·replace hF:=AaX h16 hF;have h16_:=h16;try simp at h16_
              have F16:=A3 F15 h16 h16_;refine CT (by simp [F16] <;> omega) ?_;refine SQ [] [none] fun _ _ g r=>?_;try simp [F16]
              and_intros <;> first | exact GK g | apply r | omega | (simp [maxLen,F16] <;> omega)
              refine WK [(2,Iz 16)] [] 2 (by simp [F16]) (by simp [F16]) ?_;simp only [Option.some.injEq] at hF;subst hF;refine AW.ret (hQ _ _ _ ?_ (AaF ?_)).1
              ·simp [Try.f17,F16]
              ·simp [F16]
             ·replace hF:=AaY h16 hF;have h16_:=h16;try simp at h16_
              have F17:=A3 F15 h16 h16_;refine CF (by simp [F17] <;> omega) ?_;refine AW.skip ?_;refine hK451 _ _ _ ?_;refine RG [] [none,none,none] fun _ _ g r=>?_;try simp [F17]
              and_intros <;> first | exact GK g | apply r | omega | (simp [maxLen,F17] <;> omega)
              refine hK436 _ _ _ ?_;refine RN h0 [(0,0)] [(1,AV.ptr 0 0),(3,Iz (IntKind.wrap .i64 (v3+1)))] [(0,.cells [Iz v0,Q0 v1])] 1 (by simp [F17]) (by simp [F17]) ?_;exact NX (k':=n1) (IntKind.wrap .i64 (v3+1)) hF (by simp [F17]) (by simp [F17])
    ·replace hF:=AaY h4 hF;have h4_:=h4;try simp at h4_
     have F18:=A3 F4 h4 h4_;refine CF (by simp [F18] <;> omega) ?_;refine AW.exit ?_;try simp
     refine hK353 _ _ _ ?_;refine SQ [] [none] fun _ _ g r=>?_;try simp [F18]
     and_intros <;> first | exact GK g | apply r | omega | (simp [maxLen,F18] <;> omega)
     refine WK [(2,Iz 0)] [] 1 (by simp [F18]) (by simp [F18]) ?_;simp only [Option.some.injEq] at hF;subst hF;refine AW.ret (hQ _ _ _ ?_ (AaF ?_)).1
     ·simp [Try.f17,F18]
     ·simp [F18]
theorem Ahl (k : Nat) (v0 : Int) (v1 : (List AaC)) (v2 : (List Int)) (v3 : Bool) (hF : Aa6 k v0 v1 v2=some v3) :
 Aa9 Try.prog 51 [AV.agg [AV.int .i64 v0,Q0 v1],AV.lst false false (List.map (AV.int .i64) v2)] [] (AV.bool v3) []:=by
 unfold Aa6 at hF;refine EN Try.func51 ?_;intro c0 w0 Q h0 hQ
 refine WK [(0,AV.agg [Iz v0,Q0 v1]),(1,Lz v2)] [] 0 (by simp [-List.reduceReplicate,AaG,AaH,AaD]) (by simp [-List.reduceReplicate,AaG,AaH,AaD]) ?_;refine SQ [] [none,none] fun _ _ g r=>?_;try simp [-List.reduceReplicate,AaG,AaH,AaD]
 and_intros <;> first | exact GK g | apply r | omega | (simp [-List.reduceReplicate,AaG,AaH,AaD,maxLen] <;> omega)
 refine WK [(1,Lz v2),(2,AV.ptr 0 0)] [(0,.cells [Iz v0,Q0 v1])] 1 (by simp [-List.reduceReplicate,AaG,AaH,AaD]) (by simp [-List.reduceReplicate,AaG,AaH,AaD]) ?_;refine AW.seq fun K281 hK281=>?_;refine SQ [] [none,none,none,none,some (11,false),some (11,false),some (11,false),some (11,false),some (11,false),some (11,false),none] fun _ _ g r=>?_;try simp [-List.reduceReplicate,AaG,AaH,AaD]
 and_intros
 try any_goals first | omega | (simp [-List.reduceReplicate,AaG,AaH,AaD,maxLen] <;> omega)
 obtain ⟨v4,h1,hF⟩:=AaO hF;refine AC (Ahm k _ _ _ h1) (.cons (.same (by simp)) .nil) ?_;by_cases h2 : v4≠0
 ·replace hF:=AaX h2 hF;have h2_:=Abo h2;have h2__:=Abt h2;have F1:=A3 h2 h2_ h2__;try simp [-List.reduceReplicate,AaG,AaH,AaD,F1]
  and_intros <;> first | exact GK g | apply r | omega | (simp [-List.reduceReplicate,AaG,AaH,AaD,maxLen,F1] <;> omega)
  refine WK [(1,Lz v2),(2,AV.ptr 0 0),(18,AV.bool true)] [(0,.cells [Iz v0,Q0 v1])] 1 (by simp [-List.reduceReplicate,AaG,AaH,AaD,F1]) (by simp [-List.reduceReplicate,AaG,AaH,AaD,F1]) ?_;refine CT (by simp [-List.reduceReplicate,AaG,AaH,AaD,F1]) ?_;refine SQ [] [none] fun _ _ g r=>?_;try simp [-List.reduceReplicate,AaG,AaH,AaD,F1]
  and_intros <;> first | exact GK g | apply r | omega | (simp [-List.reduceReplicate,AaG,AaH,AaD,maxLen,F1] <;> omega)
  refine WK [(4,AV.bool false)] [] 1 (by simp [-List.reduceReplicate,AaG,AaH,AaD,F1]) (by simp [-List.reduceReplicate,AaG,AaH,AaD,F1]) ?_;simp only [Option.some.injEq] at hF;subst hF;refine AW.ret (hQ _ _ _ ?_ (AaF ?_)).1
  ·simp [Try.f51,F1]
  ·simp [F1]
 ·replace hF:=AaY h2 hF;have h2q : v4=0:=Classical.not_not.1 h2;have h2_:=Abx h2q;have h2__:=Abw h2q;have F2:=A3 h2_ h2__ h2q;try simp [-List.reduceReplicate,AaG,AaH,AaD,F2]
  and_intros <;> first | exact GK g | apply r | omega | (simp [-List.reduceReplicate,AaG,AaH,AaD,maxLen,F2] <;> omega)
  refine WK [(1,Lz v2),(2,AV.ptr 0 0),(18,AV.bool ((v2.length : Int) !=(v1.length : Int)))] [(0,.cells [Iz v0,Q0 v1])] 1 (by simp [-List.reduceReplicate,AaG,AaH,AaD,F2]) (by simp [-List.reduceReplicate,AaG,AaH,AaD,F2]) ?_;by_cases h3 : (v2.length : Int)≠(v1.length : Int)
  ·replace hF:=AaX h3 hF;have h3_:=Abo h3;have h3__:=Abt h3;have F3:=A4 F2 h3 h3_ h3__;refine CT (by simp [-List.reduceReplicate,AaG,AaH,AaD,F3] <;> omega) ?_;refine SQ [] [none] fun _ _ g r=>?_;try simp [-List.reduceReplicate,AaG,AaH,AaD,F3]
   and_intros <;> first | exact GK g | apply r | omega | (simp [-List.reduceReplicate,AaG,AaH,AaD,maxLen,F3] <;> omega)
   refine WK [(4,AV.bool false)] [] 1 (by simp [-List.reduceReplicate,AaG,AaH,AaD,F3]) (by simp [-List.reduceReplicate,AaG,AaH,AaD,F3]) ?_;simp only [Option.some.injEq] at hF;subst hF;refine AW.ret (hQ _ _ _ ?_ (AaF ?_)).1
   ·simp [Try.f51,F3]
   ·simp [F3]
  ·replace hF:=AaY h3 hF;have h3q : (v2.length : Int)=(v1.length : Int):=Classical.not_not.1 h3;have h3_:=Abx h3q;have h3__:=Abw h3q;refine CF (by simp [-List.reduceReplicate,AaG,AaH,AaD,F2,h3_,h3__] <;> omega) ?_;refine AW.skip ?_;refine hK281 _ _ _ ?_;refine SQ [21] [none,none,none,none] fun _ _ g r=>?_;obtain ⟨h4,hF⟩:=AaZ hF;have F4:=A4 F2 h3_ h3__ h4;try simp [-List.reduceReplicate,AaG,AaH,AaD,F4]
   and_intros <;> first | exact GK g | apply r | omega | (simp [-List.reduceReplicate,AaG,AaH,AaD,maxLen,F4] <;> omega)
   refine WK [(1,Lz v2),(2,AV.ptr 0 0),(5,AV.slc 1 0 1 ((List.replicate (v0).toNat (0 : Int)).length) true)] [(0,.cells [Iz v0,Q0 v1]),(1,Ci (List.replicate (v0).toNat (0 : Int)))] 2 (by simp [-List.reduceReplicate,AaG,AaH,AaD,F4]) (by simp [-List.reduceReplicate,AaG,AaH,AaD,F4]) ?_;refine AW.seq fun K380 hK380=>?_;refine SQ [] [none] fun _ _ g r=>?_;try simp [-List.reduceReplicate,AaG,AaH,AaD,F4]
   and_intros <;> first | exact GK g | apply r | omega | (simp [-List.reduceReplicate,AaG,AaH,AaD,maxLen,F4] <;> omega)
   refine WK [(1,Lz v2),(2,AV.ptr 0 0),(5,AV.slc 1 0 1 ((List.replicate (v0).toNat (0 : Int)).length) true),(6,Iz 0)] [(0,.cells [Iz v0,Q0 v1]),(1,Ci (List.replicate (v0).toNat (0 : Int)))] 2 (by simp [-List.reduceReplicate,AaG,AaH,AaD,F4]) (by simp [-List.reduceReplicate,AaG,AaH,AaD,F4]) ?_;refine AW.block ?_;refine AW.loopF (α:=(Int×(List Int))) (fun n (v5,v6)=>Aa6.L1 k v0 v1 v2 n v5 v6=some v3) (fun (v5,v6)=>[(1,Lz v2),(2,AV.ptr 0 0),(5,AV.slc 1 0 1 v6.length true),(6,Iz v5)]) (fun (v5,v6)=>[(0,.cells [Iz v0,Q0 v1]),(1,Ci v6)]) 2 k ((0,(List.replicate (v0).toNat (0 : Int)))) hF (by simp [-List.reduceReplicate,AaG,AaH,AaD,F4]) (by simp [-List.reduceReplicate,AaG,AaH,AaD,F4]) (by simp) ?_;rintro (_|n1) ⟨v5,v6⟩ hF K451 hK451
   ·try dsimp only at hF
    rw [Aa6.L1] at hF; cases hF
   try dsimp only at hF
   rw [Aa6.L1] at hF;refine AW.seq fun K453 hK453=>?_;refine SQ [] [none,none,none,none] fun _ _ g r=>?_;try simp [-List.reduceReplicate,AaG,AaH,AaD,F4]
   and_intros <;> first | exact GK g | apply r | omega | (simp [-List.reduceReplicate,AaG,AaH,AaD,maxLen,F4] <;> omega)
   refine WK [(1,Lz v2),(2,AV.ptr 0 0),(5,AV.slc 1 0 1 v6.length true),(6,Iz v5),(25,AV.bool (decide (v5<(v2.length : Int))))] [(0,.cells [Iz v0,Q0 v1]),(1,Ci v6)] 2 (by simp [-List.reduceReplicate,AaG,AaH,AaD,F4]) (by simp [-List.reduceReplicate,AaG,AaH,AaD,F4]) ?_;by_cases h5 : v5<(v2.length : Int)
   ·replace hF:=AaX h5 hF;have h5_:=h5;try simp [-List.reduceReplicate] at h5_
    have F5:=A3 F4 h5 h5_;refine CT (by simp [-List.reduceReplicate,AaG,AaH,AaD,F5] <;> omega) ?_;refine AW.skip ?_;refine hK453 _ _ _ ?_;refine AW.seq fun K464 hK464=>?_;refine AW.block ?_;refine AW.seq fun K468 hK468=>?_;refine SQ [] [none,none,none,none,none,none,some (33,false),some (33,false),some (33,false),some (33,false),some (33,false),some (33,false),some (33,false),some (33,false),some (33,false),some (33,false),some (33,false),none] fun _ _ g r=>?_;obtain ⟨v7,h6,h7,h8,hF⟩:=Aaa hF;have h8_:=Aao h8;try simp [-List.reduceReplicate] at h8_
    have h7_:=h7;try simp [-List.reduceReplicate] at h7_
    by_cases h9 : v7<0
    ·replace hF:=AaX h9 hF;have h9_:=h9;try simp [-List.reduceReplicate] at h9_
     have F6:=A8 F5 h6 h7 h8 h8_ h7_ h9 h9_;try simp [-List.reduceReplicate,AaG,AaH,AaD,F6]
     and_intros <;> first | exact GK g | apply r | omega | (simp [-List.reduceReplicate,AaG,AaH,AaD,maxLen,F6] <;> omega)
     refine WK [(1,Lz v2),(2,AV.ptr 0 0),(5,AV.slc 1 0 1 v6.length true),(6,Iz v5),(45,AV.bool true)] [(0,.cells [Iz v0,Q0 v1]),(1,Ci v6)] 2 (by simp [-List.reduceReplicate,AaG,AaH,AaD,F6]) (by simp [-List.reduceReplicate,AaG,AaH,AaD,F6]) ?_;refine CT (by simp [-List.reduceReplicate,AaG,AaH,AaD,F6]) ?_;refine SQ [] [none] fun _ _ g r=>?_;try simp [-List.reduceReplicate,AaG,AaH,AaD,F6]
     and_intros <;> first | exact GK g | apply r | omega | (simp [-List.reduceReplicate,AaG,AaH,AaD,maxLen,F6] <;> omega)
     refine WK [(4,AV.bool false)] [] 2 (by simp [-List.reduceReplicate,AaG,AaH,AaD,F6]) (by simp [-List.reduceReplicate,AaG,AaH,AaD,F6]) ?_;simp only [Option.some.injEq] at hF;subst hF;refine AW.ret (hQ _ _ _ ?_ (AaF ?_)).1
     ·simp [Try.f51,F6]
     ·simp [F6]
    ·replace hF:=AaY h9 hF;have h9_:=h9;try simp [-List.reduceReplicate] at h9_
     obtain ⟨v8,h10,h11,h12,hF⟩:=Aaa hF;have h12_:=Aao h12;try simp [-List.reduceReplicate] at h12_
     have h11_:=h11;try simp [-List.reduceReplicate] at h11_
     have F7:=A9 F5 h6 h7 h8 h8_ h7_ h9 h9_ (A5 h10 h11 h12 h12_ h11_);try simp [-List.reduceReplicate,AaG,AaH,AaD,F7]
     and_intros <;> first | exact GK g | apply r | omega | (simp [-List.reduceReplicate,AaG,AaH,AaD,maxLen,F7] <;> omega)
     refine WK [(1,Lz v2),(2,AV.ptr 0 0),(5,AV.slc 1 0 1 v6.length true),(6,Iz v5),(45,AV.bool (decide (v8.Cap<v7)))] [(0,.cells [Iz v0,Q0 v1]),(1,Ci v6)] 2 (by simp [-List.reduceReplicate,AaG,AaH,AaD,F7]) (by simp [-List.reduceReplicate,AaG,AaH,AaD,F7]) ?_;by_cases h13 : v8.Cap<v7
     ·replace hF:=AaX h13 hF;have h13_:=h13;try simp [-List.reduceReplicate] at h13_
      have F8:=A3 F7 h13 h13_;refine CT (by simp [-List.reduceReplicate,AaG,AaH,AaD,F8] <;> omega) ?_;refine SQ [] [none] fun _ _ g r=>?_;try simp [-List.reduceReplicate,AaG,AaH,AaD,F8]
      and_intros <;> first | exact GK g | apply r | omega | (simp [-List.reduceReplicate,AaG,AaH,AaD,maxLen,F8] <;> omega)
      refine WK [(4,AV.bool false)] [] 2 (by simp [-List.reduceReplicate,AaG,AaH,AaD,F8]) (by simp [-List.reduceReplicate,AaG,AaH,AaD,F8]) ?_;simp only [Option.some.injEq] at hF;subst hF;refine AW.ret (hQ _ _ _ ?_ (AaF ?_)).1
      ·simp [Try.f51,F8]
      ·simp [F8]
     ·replace hF:=AaY h13 hF;have h13_:=h13;try simp [-List.reduceReplicate] at h13_
      have F9:=A3 F7 h13 h13_;refine CF (by simp [-List.reduceReplicate,AaG,AaH,AaD,F9] <;> omega) ?_;refine AW.skip ?_;refine hK468 _ _ _ ?_;refine SQ [] [none,none,none,none,none,none,none,none,none,none,none,none,none,none,none,none] fun _ _ g r=>?_;obtain ⟨⟨h14,h15⟩,hF⟩:=AaZ hF;have h15_:=AbH h15;obtain ⟨v9,h16,h17,h18,hF⟩:=Aaa hF;have h18_:=Aao h18;try simp [-List.reduceReplicate] at h18_
      have h17_:=h17;try simp [-List.reduceReplicate] at h17_
      obtain ⟨⟨h19,h20⟩,hF⟩:=AaZ hF;have h20_:=AbH h20;have F10:=A9 F9 h14 h15 h15_ h16 h17 h18 h18_ (A4 h17_ h19 h20 h20_);try simp [-List.reduceReplicate,AaG,AaH,AaD,F10]
      and_intros <;> first | exact GK g | apply r | omega | (simp [-List.reduceReplicate,AaG,AaH,AaD,maxLen,F10] <;> omega)
      refine WK [(1,Lz v2),(2,AV.ptr 0 0),(5,AV.slc 1 0 1 ((v6.set (v8.From).toNat (IntKind.wrap .i64 (v9-v7))).length) true),(6,Iz v5)] [(0,.cells [Iz v0,Q0 v1]),(1,Ci (v6.set (v8.From).toNat (IntKind.wrap .i64 (v9-v7))))] 2 (by simp [-List.reduceReplicate,AaG,AaH,AaD,F10]) (by simp [-List.reduceReplicate,AaG,AaH,AaD,F10]) ?_;refine RG [] [none,none,none,none,none,none,none,none,none,none,none,none,none,none,none,none] fun _ _ g r=>?_;obtain ⟨⟨h21,h22⟩,hF⟩:=AaZ hF;have h22_:=AbH h22;obtain ⟨v10,h23,h24,h25,hF⟩:=Aaa hF;have h25_:=Aao h25;try simp [-List.reduceReplicate] at h25_
      have h24_:=h24;try simp [-List.reduceReplicate] at h24_
      have h25__:=Aao (AiC ((AV.int .i64)) h25);try simp at h25__
      obtain ⟨⟨h26,h27⟩,hF⟩:=AaZ hF;have h27_:=AbH h27;have F11:=A9 F10 h21 h22 h22_ h23 h24 h25 h25_ (A5 h24_ h25__ h26 h27 h27_);try simp [-List.reduceReplicate,AaG,AaH,AaD,F11]
      and_intros <;> first | exact GK g | apply r | omega | (simp [-List.reduceReplicate,AaG,AaH,AaD,maxLen,F11] <;> omega)
      refine hK464 _ _ _ ?_;refine WK [(1,Lz v2),(2,AV.ptr 0 0),(5,AV.slc 1 0 1 (((v6.set (v8.From).toNat (IntKind.wrap .i64 (v9-v7))).set (v8.To).toNat (IntKind.wrap .i64 (v10+v7))).length) true),(6,Iz v5)] [(0,.cells [Iz v0,Q0 v1]),(1,Ci ((v6.set (v8.From).toNat (IntKind.wrap .i64 (v9-v7))).set (v8.To).toNat (IntKind.wrap .i64 (v10+v7))))] 2 (by simp [-List.reduceReplicate,AaG,AaH,AaD,F11]) (by simp [-List.reduceReplicate,AaG,AaH,AaD,F11]) ?_;refine RG [] [none,none,none] fun _ _ g r=>?_;try simp [-List.reduceReplicate,AaG,AaH,AaD,F11]
      and_intros <;> first | exact GK g | apply r | omega | (simp [-List.reduceReplicate,AaG,AaH,AaD,maxLen,F11] <;> omega)
      refine hK451 _ _ _ ?_;exact NX (k':=n1) ((IntKind.wrap .i64 (v5+1),(v6.set (v8.From).toNat (IntKind.wrap .i64 (v9-v7))).set (v8.To).toNat (IntKind.wrap .i64 (v10+v7)))) hF (by simp [-List.reduceReplicate,AaG,AaH,AaD,F11]) (by simp [-List.reduceReplicate,AaG,AaH,AaD,F11])
   ·replace hF:=AaY h5 hF;have h5_:=h5;try simp [-List.reduceReplicate] at h5_
    have F12:=A3 F4 h5 h5_;refine CF (by simp [-List.reduceReplicate,AaG,AaH,AaD,F12] <;> omega) ?_;refine AW.exit ?_;try simp [-List.reduceReplicate]
    refine hK380 _ _ _ ?_;refine WK [(2,AV.ptr 0 0),(5,AV.slc 1 0 1 v6.length true)] [(0,.cells [Iz v0,Q0 v1]),(1,Ci v6)] 2 (by simp [-List.reduceReplicate,AaG,AaH,AaD,F12]) (by simp [-List.reduceReplicate,AaG,AaH,AaD,F12]) ?_;refine AW.frz 1 (o:=Ci v6) (by simp [-List.reduceReplicate,AaG,AaH,AaD,F12]) rfl [(5,AV.lst false true (List.map (AV.int .i64) v6))] [] ⟨(.l (by simp) (by simp) (by simp) (by simp)),trivial⟩ trivial ?_;refine WK [(2,AV.ptr 0 0),(5,AV.lst false true (List.map (AV.int .i64) v6))] [(0,.cells [Iz v0,Q0 v1])] 2 (by simp [-List.reduceReplicate,AaG,AaH,AaD,F12]) (by simp [-List.reduceReplicate,AaG,AaH,AaD,F12]) ?_;refine AW.seq fun K513 hK513=>?_;refine SQ [] [none] fun _ _ g r=>?_;try simp [-List.reduceReplicate,AaG,AaH,AaD,F12]
    and_intros <;> first | exact GK g | apply r | omega | (simp [-List.reduceReplicate,AaG,AaH,AaD,maxLen,F12] <;> omega)
    refine WK [(2,AV.ptr 0 0),(5,AV.lst false true (List.map (AV.int .i64) v6)),(7,Iz 2)] [(0,.cells [Iz v0,Q0 v1])] 2 (by simp [-List.reduceReplicate,AaG,AaH,AaD,F12]) (by simp [-List.reduceReplicate,AaG,AaH,AaD,F12]) ?_;refine AW.block ?_;refine RM h0 [(0,0)] [(2,AV.ptr 0 0),(5,AV.lst false true (List.map (AV.int .i64) v6)),(7,Iz 2)] [(0,.cells [Iz v0,Q0 v1])] 1 (by simp [-List.reduceReplicate,AaG,AaH,AaD,F12]) (by simp [-List.reduceReplicate,AaG,AaH,AaD,F12]) ?_;refine AW.loopF (α:=Int) (fun n v11=>Aa6.L2 k v0 v6 n v11=some v3) (fun v11=>[(2,AV.ptr 0 0),(5,AV.lst false true (List.map (AV.int .i64) v6)),(7,Iz v11)]) (fun v11=>[(0,.cells [Iz v0,Q0 v1])]) 1 k (2) hF (by simp [-List.reduceReplicate,AaG,AaH,AaD,F12]) (by simp [-List.reduceReplicate,AaG,AaH,AaD,F12]) (by simp) ?_;rintro (_|n2) v11 hF K542 hK542
    ·try dsimp only at hF
     rw [Aa6.L2] at hF; cases hF
    try dsimp only at hF
    rw [Aa6.L2] at hF;refine AW.seq fun K544 hK544=>?_;refine SQ [] [none,none,none,none] fun _ _ g r=>?_;try simp [-List.reduceReplicate,AaG,AaH,AaD,F12]
    and_intros <;> first | exact GK g | apply r | omega | (simp [-List.reduceReplicate,AaG,AaH,AaD,maxLen,F12] <;> omega)
    refine WK [(2,AV.ptr 0 0),(5,AV.lst false true (List.map (AV.int .i64) v6)),(7,Iz v11),(79,AV.bool (decide (v11<v0)))] [(0,.cells [Iz v0,Q0 v1])] 1 (by simp [-List.reduceReplicate,AaG,AaH,AaD,F12]) (by simp [-List.reduceReplicate,AaG,AaH,AaD,F12]) ?_;by_cases h28 : v11<v0
    ·replace hF:=AaX h28 hF;have h28_:=h28;try simp [-List.reduceReplicate] at h28_
     have F13:=A3 F12 h28 h28_;refine CT (by simp [-List.reduceReplicate,AaG,AaH,AaD,F13] <;> omega) ?_;refine AW.skip ?_;refine hK544 _ _ _ ?_;refine AW.seq fun K548 hK548=>?_;refine AW.block ?_;refine SQ [] [none,none,none,none,none] fun _ _ g r=>?_;obtain ⟨v12,h29,h30,h31,hF⟩:=Aaa hF;have h31_:=Aao h31;try simp [-List.reduceReplicate] at h31_
     have h30_:=h30;try simp [-List.reduceReplicate] at h30_
     have F14:=A6 F13 h29 h30 h31 h31_ h30_;try simp [-List.reduceReplicate,AaG,AaH,AaD,F14]
     and_intros <;> first | exact GK g | apply r | omega | (simp [-List.reduceReplicate,AaG,AaH,AaD,maxLen,F14] <;> omega)
     refine WK [(2,AV.ptr 0 0),(5,AV.lst false true (List.map (AV.int .i64) v6)),(7,Iz v11),(86,AV.bool (v12 !=0))] [(0,.cells [Iz v0,Q0 v1])] 1 (by simp [-List.reduceReplicate,AaG,AaH,AaD,F14]) (by simp [-List.reduceReplicate,AaG,AaH,AaD,F14]) ?_;by_cases h32 : v12≠0
     ·replace hF:=AaX h32 hF;have h32_:=Abo h32;have h32__:=Abt h32;have F15:=A4 F14 h32 h32_ h32__;refine CT (by simp [-List.reduceReplicate,AaG,AaH,AaD,F15] <;> omega) ?_;refine SQ [] [none] fun _ _ g r=>?_;try simp [-List.reduceReplicate,AaG,AaH,AaD,F15]
      and_intros <;> first | exact GK g | apply r | omega | (simp [-List.reduceReplicate,AaG,AaH,AaD,maxLen,F15] <;> omega)
      refine WK [(4,AV.bool false)] [] 1 (by simp [-List.reduceReplicate,AaG,AaH,AaD,F15]) (by simp [-List.reduceReplicate,AaG,AaH,AaD,F15]) ?_;simp only [Option.some.injEq] at hF;subst hF;refine AW.ret (hQ _ _ _ ?_ (AaF ?_)).1
      ·simp [Try.f51,F15]
      ·simp [F15]
     ·replace hF:=AaY h32 hF;have h32q : v12=0:=Classical.not_not.1 h32;have h32_:=Abx h32q;have h32__:=Abw h32q;have F16:=A4 F14 h32_ h32__ h32q;refine CF (by simp [-List.reduceReplicate,AaG,AaH,AaD,F16] <;> omega) ?_;refine AW.skip ?_;refine hK548 _ _ _ ?_;refine RG [] [none,none,none] fun _ _ g r=>?_;try simp [-List.reduceReplicate,AaG,AaH,AaD,F16]
      and_intros <;> first | exact GK g | apply r | omega | (simp [-List.reduceReplicate,AaG,AaH,AaD,maxLen,F16] <;> omega)
      refine hK542 _ _ _ ?_;exact NX (k':=n2) (IntKind.wrap .i64 (v11+1)) hF (by simp [-List.reduceReplicate,AaG,AaH,AaD,F16]) (by simp [-List.reduceReplicate,AaG,AaH,AaD,F16])
    ·replace hF:=AaY h28 hF;have h28_:=h28;try simp [-List.reduceReplicate] at h28_
     have F17:=A3 F12 h28 h28_;refine CF (by simp [-List.reduceReplicate,AaG,AaH,AaD,F17] <;> omega) ?_;refine AW.exit ?_;try simp [-List.reduceReplicate]
     refine hK513 _ _ _ ?_;refine SQ [] [none] fun _ _ g r=>?_;try simp [-List.reduceReplicate,AaG,AaH,AaD,F17]
     and_intros <;> first | exact GK g | apply r | omega | (simp [-List.reduceReplicate,AaG,AaH,AaD,maxLen,F17] <;> omega)
     refine WK [(4,AV.bool true)] [] 1 (by simp [-List.reduceReplicate,AaG,AaH,AaD,F17]) (by simp [-List.reduceReplicate,AaG,AaH,AaD,F17]) ?_;simp only [Option.some.injEq] at hF;subst hF;refine AW.ret (hQ _ _ _ ?_ (AaF ?_)).1
     ·simp [Try.f51,F17]
     ·simp [F17]
end Go.TF
set_option linter.unusedVariables false
set_option linter.unusedSimpArgs false
set_option maxRecDepth 100000
set_option maxHeartbeats 4000000
namespace Go.TF
open Go Go.Abs Go.Proofs Go.Proofs.YtelffnegemdicaaFwT
theorem AfW (k : Nat) (v0 : Int) (v1 : (List AaC)) (v2 : (List Int)) (v3 : Int) (hF : Aa5 k v0 v1 v2=some v3) :
 Aa9 Try.prog 21 [AV.agg [AV.int .i64 v0,Q0 v1],AV.lst false false (List.map (AV.int .i64) v2)] [] (AV.int .i64 v3) []:=by
 unfold Aa5 at hF;refine EN Try.func21 ?_;intro c0 w0 Q h0 hQ
 refine WK [(0,AV.agg [Iz v0,Q0 v1]),(1,Lz v2)] [] 0 (by simp) (by simp) ?_;refine SQ [] [none,none] fun _ _ g r=>?_;try simp
 and_intros <;> first | exact GK g | apply r | omega | (simp [maxLen] <;> omega)
 refine WK [(1,Lz v2),(2,AV.ptr 0 0)] [(0,.cells [Iz v0,Q0 v1])] 1 (by simp) (by simp) ?_;refine AW.seq fun K89 hK89=>?_;refine SQ [] [none,none,none,none] fun _ _ g r=>?_;try simp
 and_intros
 try any_goals first | omega | (simp [maxLen] <;> omega)
 obtain ⟨v4,h1,hF⟩:=AaO hF;refine AC (Ahl k _ _ _ _ h1) (.cons (.same (by simp)) (.cons (.same (by simp)) .nil)) ?_;try simp
 and_intros <;> first | exact GK g | apply r | omega | (simp [maxLen] <;> omega)
 refine WK [(1,Lz v2),(2,AV.ptr 0 0),(10,AV.bool (!v4))] [(0,.cells [Iz v0,Q0 v1])] 1 (by simp) (by simp) ?_;by_cases h2 : (!v4)=true
 ·replace hF:=AaX h2 hF;have h2_:=h2;try simp at h2_
  refine CT (by simp [h2,h2_] <;> omega) ?_;refine SQ [] [none] fun _ _ g r=>?_;try simp [h2,h2_]
  and_intros <;> first | exact GK g | apply r | omega | (simp [h2,h2_,maxLen] <;> omega)
  refine WK [(4,Iz 0)] [] 1 (by simp [h2,h2_]) (by simp [h2,h2_]) ?_;simp only [Option.some.injEq] at hF;subst hF;refine AW.ret (hQ _ _ _ ?_ (AaF ?_)).1
  ·simp [Try.f21,h2,h2_]
  ·simp [h2,h2_]
 ·replace hF:=AaY h2 hF;have h2_:=h2;try simp at h2_
  refine CF (by simp [h2,h2_] <;> omega) ?_;refine AW.skip ?_;refine hK89 _ _ _ ?_;refine SQ [] [none] fun _ _ g r=>?_;try simp [h2,h2_]
  and_intros <;> first | exact GK g | apply r | omega | (simp [h2,h2_,maxLen] <;> omega)
  refine WK [(1,Lz v2),(2,AV.ptr 0 0),(5,Iz 0)] [(0,.cells [Iz v0,Q0 v1])] 1 (by simp [h2,h2_]) (by simp [h2,h2_]) ?_;refine AW.seq fun K131 hK131=>?_;refine SQ [] [none] fun _ _ g r=>?_;try simp [h2,h2_]
  and_intros <;> first | exact GK g | apply r | omega | (simp [h2,h2_,maxLen] <;> omega)
  refine WK [(1,Lz v2),(2,AV.ptr 0 0),(5,Iz 0),(6,Iz 0)] [(0,.cells [Iz v0,Q0 v1])] 1 (by simp [h2,h2_]) (by simp [h2,h2_]) ?_;refine AW.block ?_;refine AW.loopF (α:=(Int×Int)) (fun n (v5,v6)=>Aa5.L1 k v1 v2 n v5 v6=some v3) (fun (v5,v6)=>[(1,Lz v2),(2,AV.ptr 0 0),(5,Iz v5),(6,Iz v6)]) (fun (v5,v6)=>[(0,.cells [Iz v0,Q0 v1])]) 1 k ((0,0)) hF (by simp [h2,h2_]) (by simp [h2,h2_]) (by simp) ?_;rintro (_|n1) ⟨v5,v6⟩ hF K160 hK160
  ·try dsimp only at hF
   rw [Aa5.L1] at hF; cases hF
  try dsimp only at hF
  rw [Aa5.L1] at hF;refine AW.seq fun K162 hK162=>?_;refine SQ [] [none,none,none,none] fun _ _ g r=>?_;try simp [h2,h2_]
  and_intros <;> first | exact GK g | apply r | omega | (simp [h2,h2_,maxLen] <;> omega)
  refine WK [(1,Lz v2),(2,AV.ptr 0 0),(5,Iz v5),(6,Iz v6),(14,AV.bool (decide (v6<(v2.length : Int))))] [(0,.cells [Iz v0,Q0 v1])] 1 (by simp [h2,h2_]) (by simp [h2,h2_]) ?_;by_cases h3 : v6<(v2.length : Int)
  ·replace hF:=AaX h3 hF;have h3_:=h3;try simp at h3_
   have F1:=A4 h2 h2_ h3 h3_;refine CT (by simp [F1] <;> omega) ?_;refine AW.skip ?_;refine hK162 _ _ _ ?_;refine AW.midF (α:=Int) (fun v7=>Aa5.J2 k v6 (fun v5_ v6_=>Aa5.L1 k v1 v2 n1 v5_ v6_) v7=some v3) (fun v7=>[(1,Lz v2),(2,AV.ptr 0 0),(5,Iz v7),(6,Iz v6)]) (fun v7=>[(0,.cells [Iz v0,Q0 v1])]) 1 (fun K167 hK167=>?_) ?_
   ·refine AW.block ?_;refine SQ [] [none,none,none,none,none,none,none] fun _ _ g r=>?_;obtain ⟨v8,h4,h5,h6,hF⟩:=Aaa hF;have h6_:=Aao h6;try simp at h6_
    have h5_:=h5;try simp at h5_
    have F2:=A6 F1 h4 h5 h6 h6_ h5_;try simp [F2]
    and_intros <;> first | exact GK g | apply r | omega | (simp [maxLen,F2] <;> omega)
    refine WK [(1,Lz v2),(2,AV.ptr 0 0),(5,Iz v5),(6,Iz v6),(23,AV.bool (v8.From==0))] [(0,.cells [Iz v0,Q0 v1])] 1 (by simp [F2]) (by simp [F2]) ?_;by_cases h7 : v8.From=0
    ·replace hF:=AaX h7 hF;have h7q : v8.From=0:=h7;have h7_:=Abx h7q;have h7__:=Abw h7q;refine CT (by simp [F2,h7_,h7__,h7q] <;> omega) ?_;refine RG [] [none,none,none,none,none,none,none] fun _ _ g r=>?_;obtain ⟨v9,h8,h9,h10,hF⟩:=Aaa hF;have h10_:=Aao h10;try simp at h10_
     have h9_:=h9;try simp at h9_
     have F3:=A9 F2 h7_ h7__ h7q h8 h9 h10 h10_ h9_;try simp [F3]
     and_intros <;> first | exact GK g | apply r | omega | (simp [maxLen,F3] <;> omega)
     refine hK167 _ _ _ ?_;exact JN (IntKind.wrap .i64 (v5+v9)) hF (by simp [F3]) (by simp [F3])
    ·replace hF:=AaY h7 hF;have h7_:=Abo h7;have h7__:=Abt h7;have F4:=A4 F2 h7 h7_ h7__;refine CF (by simp [F4] <;> omega) ?_;refine AW.skip ?_;refine hK167 _ _ _ ?_;exact JN (v5) hF (by simp [F4]) (by simp [F4])
   ·rintro v7 hF
    try dsimp only at hF
    unfold Aa5.J2 at hF;refine RG [] [none,none,none] fun _ _ g r=>?_;try simp [F1]
    and_intros <;> first | exact GK g | apply r | omega | (simp [maxLen,F1] <;> omega)
    refine hK160 _ _ _ ?_;exact NX (k':=n1) ((v7,IntKind.wrap .i64 (v6+1))) hF (by simp [F1]) (by simp [F1])
  ·replace hF:=AaY h3 hF;have h3_:=h3;try simp at h3_
   have F5:=A4 h2 h2_ h3 h3_;refine CF (by simp [F5] <;> omega) ?_;refine AW.exit ?_;try simp
   refine hK131 _ _ _ ?_;refine SQ [] [none,none] fun _ _ g r=>?_;try simp [F5]
   and_intros <;> first | exact GK g | apply r | omega | (simp [maxLen,F5] <;> omega)
   refine WK [(4,Iz v5)] [] 1 (by simp [F5]) (by simp [F5]) ?_;simp only [Option.some.injEq] at hF;subst hF;refine AW.ret (hQ _ _ _ ?_ (AaF ?_)).1
   ·simp [Try.f21,F5]
   ·simp [F5]
theorem Afz (k : Nat) (v0 : (List Int)) (v1 : Bool) (hF : Acv k v0=some v1) :
 Aa9 Try.prog 4 [AV.lst false false (List.map (AV.int .i64) v0)] [] (AV.bool v1) []:=by
 unfold Acv at hF;refine EN Try.func4 ?_;intro c0 w0 Q h0 hQ
 refine WK [(0,Lz v0)] [] 0 (by simp) (by simp) ?_;refine SQ [] [none] fun _ _ g r=>?_;try simp
 and_intros <;> first | exact GK g | apply r | omega | (simp [maxLen] <;> omega)
 refine WK [(0,Lz v0)] [] 0 (by simp) (by simp) ?_;refine AW.seq fun K21 hK21=>?_;refine SQ [] [none,none,none] fun _ _ g r=>?_;try simp
 and_intros
 try any_goals first | omega | (simp [maxLen] <;> omega)
 obtain ⟨v2,h1,hF⟩:=AaO hF;refine AC (AiY k _ _ h1) (.cons (.same (by simp)) .nil) ?_;try simp
 and_intros <;> first | exact GK g | apply r | omega | (simp [maxLen] <;> omega)
 refine WK [(0,Lz v0),(20,AV.bool (!v2))] [] 0 (by simp) (by simp) ?_;by_cases h2 : (!v2)=true
 ·replace hF:=AaX h2 hF;have h2_:=h2;try simp at h2_
  refine CT (by simp [h2,h2_] <;> omega) ?_;refine SQ [] [none,none] fun _ _ g r=>?_;try simp [h2,h2_]
  and_intros
  try any_goals first | omega | (simp [h2,h2_,maxLen] <;> omega)
  obtain ⟨v3,h3,hF⟩:=AaO hF;refine AC (AfY k _ h3) .nil ?_;try simp [h2,h2_]
  and_intros <;> first | exact GK g | apply r | omega | (simp [h2,h2_,maxLen] <;> omega)
  refine WK [(2,AV.bool v3)] [] 0 (by simp [h2,h2_]) (by simp [h2,h2_]) ?_;simp only [Option.some.injEq] at hF;subst hF;refine AW.ret (hQ _ _ _ ?_ (AaF ?_)).1
  ·simp [Try.f4,h2,h2_]
  ·simp [h2,h2_]
 ·replace hF:=AaY h2 hF;have h2_:=h2;try simp at h2_
  refine CF (by simp [h2,h2_] <;> omega) ?_;refine AW.skip ?_;refine hK21 _ _ _ ?_;refine SQ [] [none,none,none] fun _ _ g r=>?_;try simp [h2,h2_]
  and_intros
  try any_goals first | omega | (simp [h2,h2_,maxLen] <;> omega)
  obtain ⟨v4,v5,h4,hF⟩:=Aa8 hF;refine AC (Aja k _ _ _ h4) (.cons (.same (by simp [h2,h2_])) .nil) ?_;try simp [h2,h2_]
  and_intros <;> first | exact GK g | apply r | omega | (simp [h2,h2_,maxLen] <;> omega)
  refine WK [(3,AV.ptr 0 0)] [(0,.cells [Lz v4,Iz v5])] 1 (by simp [h2,h2_]) (by simp [h2,h2_]) ?_;refine SQ [] [none,none,none,none] fun _ _ g r=>?_;try simp [h2,h2_]
  and_intros
  try any_goals first | omega | (simp [h2,h2_,maxLen] <;> omega)
  obtain ⟨v6,v7,v8,v9,h5,hF⟩:=Ag1 hF;refine Aa1 (AfG k _ _ _ _ _ _ h5) (by simp) [0] [] [0] rfl (.cons (.same (by simp [h2,h2_])) .nil) (by simp [h2,h2_]) (by decide) (by simp) (by simp) (.inl rfl) (by simp) (by simp) ?_;try simp [h2,h2_]
  and_intros <;> first | exact GK g | apply r | omega | (simp [h2,h2_,maxLen] <;> omega)
  refine WK [(3,AV.ptr 0 0),(4,AV.ptr 3 0)] [(0,.cells [Lz v4,Iz v9]),(1,.grow (AaL (List.map AaA.av v7))),(2,Gi v8),(3,.cells [Iz v6,AV.slc 1 0 3 v7.length false,AV.slc 2 0 1 v8.length false])] 4 (by simp [h2,h2_]) (by simp [h2,h2_]) ?_;refine AW.frz 1 (o := .grow (AaL (List.map AaA.av v7))) (by simp [h2,h2_]) rfl [] [(3,.cells [Iz v6,Q2 v7,AV.slc 2 0 1 v8.length false])] trivial ⟨⟨by simp,Aas.cells [Iz v6,AV.slc 1 0 3 v7.length false,AV.slc 2 0 1 v8.length false],by simp [h2,h2_],(.mk (.cons (.same _) (.cons (.l (by simp) (by simp) (by simp) (by simp)) (.cons (.same _) .nil))))⟩,trivial⟩ ?_;refine AW.frz 2 (o:=Gi v8) (by simp [h2,h2_]) rfl [] [(3,.cells [Iz v6,Q2 v7,Lz v8])] trivial ⟨⟨by simp,Aas.cells [Iz v6,Q2 v7,AV.slc 2 0 1 v8.length false],by simp [h2,h2_],(.mk (.cons (.same _) (.cons (.same _) (.cons (.l (by simp) (by simp) (by simp) (by simp)) .nil))))⟩,trivial⟩ ?_;refine WK [(3,AV.ptr 0 0),(4,AV.ptr 3 0)] [(0,.cells [Lz v4,Iz v9]),(3,.cells [Iz v6,Q2 v7,Lz v8])] 4 (by simp [h2,h2_]) (by simp [h2,h2_]) ?_;refine SQ [] [none,none,none,none,none] fun _ _ g r=>?_;try simp [h2,h2_]
  and_intros
  try any_goals first | omega | (simp [h2,h2_,maxLen] <;> omega)
  obtain ⟨v10,v11,v12,v13,h6,hF⟩:=Ag1 hF;refine Aa1 (AfX k _ _ _ _ _ _ _ _ _ h6) (by simp) [0] [] [0] rfl (.cons (.same (by simp [h2,h2_])) (.cons (.same (by simp [h2,h2_])) .nil)) (by simp [h2,h2_]) (by decide) (by simp) (by simp) (.inl rfl) (by simp) (by simp) ?_;try simp [h2,h2_]
  and_intros <;> first | exact GK g | apply r | omega | (simp [h2,h2_,maxLen] <;> omega)
  refine WK [(3,AV.ptr 0 0),(4,AV.ptr 3 0),(5,AV.ptr 5 0)] [(0,.cells [Lz v4,Iz v13]),(3,.cells [Iz v6,Q2 v7,Lz v8]),(4,Gi v11),(5,.cells [Lz v10,AV.slc 4 0 1 v11.length false,Iz v12])] 6 (by simp [h2,h2_]) (by simp [h2,h2_]) ?_;refine AW.frz 4 (o:=Gi v11) (by simp [h2,h2_]) rfl [] [(5,.cells [Lz v10,Lz v11,Iz v12])] trivial ⟨⟨by simp,Aas.cells [Lz v10,AV.slc 4 0 1 v11.length false,Iz v12],by simp [h2,h2_],(.mk (.cons (.same _) (.cons (.l (by simp) (by simp) (by simp) (by simp)) (.cons (.same _) .nil))))⟩,trivial⟩ ?_;refine WK [(3,AV.ptr 0 0),(4,AV.ptr 3 0),(5,AV.ptr 5 0)] [(0,.cells [Lz v4,Iz v13]),(3,.cells [Iz v6,Q2 v7,Lz v8]),(5,.cells [Lz v10,Lz v11,Iz v12])] 6 (by simp [h2,h2_]) (by simp [h2,h2_]) ?_;refine SQ [] [none,none,none,none,none] fun _ _ g r=>?_;try simp [h2,h2_]
  and_intros
  try any_goals first | omega | (simp [h2,h2_,maxLen] <;> omega)
  obtain ⟨v14,v15,h7,hF⟩:=Aa8 hF;refine Aa1 (AgE k _ _ _ _ _ h7) (by simp) [0] [] [0] rfl (.cons (.same (by simp [h2,h2_])) (.cons (.same (by simp [h2,h2_])) .nil)) (by simp [h2,h2_]) (by decide) (by simp) (by simp) (.inl rfl) (by simp) (by simp) ?_;try simp [h2,h2_]
  and_intros <;> first | exact GK g | apply r | omega | (simp [h2,h2_,maxLen] <;> omega)
  refine WK [(3,AV.ptr 0 0),(4,AV.ptr 3 0),(5,AV.ptr 5 0),(6,AV.slc 6 0 1 v14.length false)] [(0,.cells [Lz v4,Iz v15]),(3,.cells [Iz v6,Q2 v7,Lz v8]),(5,.cells [Lz v10,Lz v11,Iz v12]),(6,Gi v14)] 7 (by simp [h2,h2_]) (by simp [h2,h2_]) ?_;refine AW.frz 6 (o:=Gi v14) (by simp [h2,h2_]) rfl [(6,Lz v14)] [] ⟨(.l (by simp) (by simp) (by simp) (by simp)),trivial⟩ trivial ?_;refine WK [(3,AV.ptr 0 0),(4,AV.ptr 3 0),(5,AV.ptr 5 0),(6,Lz v14)] [(0,.cells [Lz v4,Iz v15]),(3,.cells [Iz v6,Q2 v7,Lz v8]),(5,.cells [Lz v10,Lz v11,Iz v12])] 7 (by simp [h2,h2_]) (by simp [h2,h2_]) ?_;refine SQ [] [none,none,none,none,none,none,none] fun _ _ g r=>?_;try simp [h2,h2_]
  and_intros
  try any_goals first | omega | (simp [h2,h2_,maxLen] <;> omega)
  obtain ⟨v16,v17,h8,hF⟩:=Aa8 hF;refine Aa1 (Aa4 k _ _ _ _ _ h8) (by simp) [0] [] [0] rfl (.cons (.same (by simp [h2,h2_])) (.cons (.same (by simp [h2,h2_])) .nil)) (by simp [h2,h2_]) (by decide) (by simp) (by simp) (.inl rfl) (by simp) (by simp) ?_;try simp [h2,h2_]
  and_intros
  try any_goals first | omega | (simp [h2,h2_,maxLen] <;> omega)
  obtain ⟨v18,h9,hF⟩:=AaO hF;refine AC (AgY k _ _ _ h9) (.cons (.same (by simp [h2,h2_])) (.cons (.same (by simp [h2,h2_])) .nil)) ?_;try simp [h2,h2_]
  and_intros <;> first | exact GK g | apply r | omega | (simp [h2,h2_,maxLen] <;> omega)
  refine WK [(4,AV.ptr 3 0),(5,AV.ptr 5 0),(6,Lz v14),(7,AV.slc 7 0 1 v18.length false)] [(3,.cells [Iz v6,Q2 v7,Lz v8]),(5,.cells [Lz v10,Lz v11,Iz v12]),(7,Gi v18)] 8 (by simp [h2,h2_]) (by simp [h2,h2_]) ?_;refine AW.frz 7 (o:=Gi v18) (by simp [h2,h2_]) rfl [(7,Lz v18)] [] ⟨(.l (by simp) (by simp) (by simp) (by simp)),trivial⟩ trivial ?_;refine WK [(4,AV.ptr 3 0),(5,AV.ptr 5 0),(6,Lz v14),(7,Lz v18)] [(3,.cells [Iz v6,Q2 v7,Lz v8]),(5,.cells [Lz v10,Lz v11,Iz v12])] 8 (by simp [h2,h2_]) (by simp [h2,h2_]) ?_;refine SQ [] [none,none,none,none,none,none,none,none,none,none] fun _ _ g r=>?_;try simp [h2,h2_]
  and_intros
  try any_goals first | omega | (simp [h2,h2_,maxLen] <;> omega)
  obtain ⟨v19,v20,v21,h10,hF⟩:=Ad3 hF;refine AC (AeQ k _ _ _ _ _ _ _ _ _ _ h10) (.cons (.same (by simp [h2,h2_])) (.cons (.same (by simp [h2,h2_])) (.cons (.same (by simp [h2,h2_])) .nil))) ?_;try simp [h2,h2_]
  and_intros <;> first | exact GK g | apply r | omega | (simp [h2,h2_,maxLen] <;> omega)
  refine WK [(4,AV.ptr 3 0),(5,AV.ptr 5 0),(6,Lz v14),(7,Lz v18),(8,AV.ptr 9 0),(9,Iz v21)] [(3,.cells [Iz v6,Q2 v7,Lz v8]),(5,.cells [Lz v10,Lz v11,Iz v12]),(8,.grow (AaL (List.map AaC.av v20))),(9,.cells [Iz v19,AV.slc 8 0 3 v20.length false])] 10 (by simp [h2,h2_]) (by simp [h2,h2_]) ?_;refine AW.frz 8 (o := .grow (AaL (List.map AaC.av v20))) (by simp [h2,h2_]) rfl [] [(9,.cells [Iz v19,Q0 v20])] trivial ⟨⟨by simp,Aas.cells [Iz v19,AV.slc 8 0 3 v20.length false],by simp [h2,h2_],(.mk (.cons (.same _) (.cons (.l (by simp) (by simp) (by simp) (by simp)) .nil)))⟩,trivial⟩ ?_;refine WK [(4,AV.ptr 3 0),(5,AV.ptr 5 0),(6,Lz v14),(7,Lz v18),(8,AV.ptr 9 0),(9,Iz v21)] [(3,.cells [Iz v6,Q2 v7,Lz v8]),(5,.cells [Lz v10,Lz v11,Iz v12]),(9,.cells [Iz v19,Q0 v20])] 10 (by simp [h2,h2_]) (by simp [h2,h2_]) ?_;refine SQ [] [none,none,none,none,none,none,none,none,none,none] fun _ _ g r=>?_;try simp [h2,h2_]
  and_intros
  try any_goals first | omega | (simp [h2,h2_,maxLen] <;> omega)
  obtain ⟨v22,v23,v24,h11,hF⟩:=Ad3 hF;refine AC (AeQ k _ _ _ _ _ _ _ _ _ _ h11) (.cons (.same (by simp [h2,h2_])) (.cons (.same (by simp [h2,h2_])) (.cons (.same (by simp [h2,h2_])) .nil))) ?_;try simp [h2,h2_]
  and_intros <;> first | exact GK g | apply r | omega | (simp [h2,h2_,maxLen] <;> omega)
  refine WK [(6,Lz v14),(8,AV.ptr 9 0),(9,Iz v21),(10,AV.ptr 11 0),(11,Iz v24)] [(9,.cells [Iz v19,Q0 v20]),(10,.grow (AaL (List.map AaC.av v23))),(11,.cells [Iz v22,AV.slc 10 0 3 v23.length false])] 12 (by simp [h2,h2_]) (by simp [h2,h2_]) ?_;refine AW.frz 10 (o := .grow (AaL (List.map AaC.av v23))) (by simp [h2,h2_]) rfl [] [(11,.cells [Iz v22,Q0 v23])] trivial ⟨⟨by simp,Aas.cells [Iz v22,AV.slc 10 0 3 v23.length false],by simp [h2,h2_],(.mk (.cons (.same _) (.cons (.l (by simp) (by simp) (by simp) (by simp)) .nil)))⟩,trivial⟩ ?_;refine WK [(6,Lz v14),(8,AV.ptr 9 0),(9,Iz v21),(10,AV.ptr 11 0),(11,Iz v24)] [(9,.cells [Iz v19,Q0 v20]),(11,.cells [Iz v22,Q0 v23])] 12 (by simp [h2,h2_]) (by simp [h2,h2_]) ?_;refine SQ [] [none,none,none,none,none,none,none] fun _ _ g r=>?_;try simp [h2,h2_]
  and_intros
  try any_goals first | omega | (simp [h2,h2_,maxLen] <;> omega)
  obtain ⟨v25,v26,h12,hF⟩:=Aa8 hF;refine AC (Af0 k _ _ _ _ h12) (.cons (.same (by simp [h2,h2_])) .nil) ?_;try simp [h2,h2_]
  and_intros <;> first | exact GK g | apply r | omega | (simp [h2,h2_,maxLen] <;> omega)
  refine WK [(6,Lz v14),(8,AV.ptr 9 0),(9,Iz v21),(10,AV.ptr 11 0),(11,Iz v24),(12,AV.slc 12 0 1 v25.length false)] [(9,.cells [Iz v19,Q0 v20]),(11,.cells [Iz v22,Q0 v23]),(12,Gi v25)] 13 (by simp [h2,h2_]) (by simp [h2,h2_]) ?_;refine AW.frz 12 (o:=Gi v25) (by simp [h2,h2_]) rfl [(12,Lz v25)] [] ⟨(.l (by simp) (by simp) (by simp) (by simp)),trivial⟩ trivial ?_;refine WK [(6,Lz v14),(8,AV.ptr 9 0),(9,Iz v21),(10,AV.ptr 11 0),(11,Iz v24),(12,Lz v25)] [(9,.cells [Iz v19,Q0 v20]),(11,.cells [Iz v22,Q0 v23])] 13 (by simp [h2,h2_]) (by simp [h2,h2_]) ?_;refine SQ [] [none,none,none,none,none,none,none] fun _ _ g r=>?_;try simp [h2,h2_]
  and_intros
  try any_goals first | omega | (simp [h2,h2_,maxLen] <;> omega)
  obtain ⟨v27,v28,h13,hF⟩:=Aa8 hF;refine AC (Af0 k _ _ _ _ h13) (.cons (.same (by simp [h2,h2_])) .nil) ?_;try simp [h2,h2_]
  and_intros <;> first | exact GK g | apply r | omega | (simp [h2,h2_,maxLen] <;> omega)
  refine WK [(6,Lz v14),(8,AV.ptr 9 0),(9,Iz v21),(10,AV.ptr 11 0),(11,Iz v24),(12,Lz v25),(14,AV.slc 13 0 1 v27.length false)] [(9,.cells [Iz v19,Q0 v20]),(11,.cells [Iz v22,Q0 v23]),(13,Gi v27)] 14 (by simp [h2,h2_]) (by simp [h2,h2_]) ?_;refine AW.frz 13 (o:=Gi v27) (by simp [h2,h2_]) rfl [(14,Lz v27)] [] ⟨(.l (by simp) (by simp) (by simp) (by simp)),trivial⟩ trivial ?_;refine WK [(6,Lz v14),(8,AV.ptr 9 0),(9,Iz v21),(10,AV.ptr 11 0),(11,Iz v24),(12,Lz v25),(14,Lz v27)] [(9,.cells [Iz v19,Q0 v20]),(11,.cells [Iz v22,Q0 v23])] 14 (by simp [h2,h2_]) (by simp [h2,h2_]) ?_;refine SQ [] [none,none,none,none,none,none,none,none] fun _ _ g r=>?_;try simp [h2,h2_]
  and_intros
  try any_goals first | omega | (simp [h2,h2_,maxLen] <;> omega)
  obtain ⟨v29,h14,hF⟩:=AaO hF;refine AC (AfW k _ _ _ _ h14) (.cons (.same (by simp [h2,h2_])) (.cons (.same (by simp [h2,h2_])) .nil)) ?_;try simp [h2,h2_]
  and_intros
  try any_goals first | omega | (simp [h2,h2_,maxLen] <;> omega)
  obtain ⟨v30,h15,hF⟩:=AaO hF;refine AC (AfW k _ _ _ _ h15) (.cons (.same (by simp [h2,h2_])) (.cons (.same (by simp [h2,h2_])) .nil)) ?_;try simp [h2,h2_]
  and_intros <;> first | exact GK g | apply r | omega | (simp [h2,h2_,maxLen] <;> omega)
  refine WK [(6,Lz v14),(9,Iz v21),(11,Iz v24),(16,Iz v29),(17,Iz v30)] [] 14 (by simp [h2,h2_]) (by simp [h2,h2_]) ?_;refine SQ [] [none,none,some (70,true),some (70,true),none,none,some (74,true),some (74,true),none,none,some (78,true),some (78,true),some (78,true),none,none,some (83,true),some (83,true),some (83,true),some (83,true),none,none,some (89,true),some (89,true),some (89,true),some (89,true),none,none] fun _ _ g r=>?_;try simp [h2,h2_]
  and_intros
  try any_goals first | omega | (simp [h2,h2_,maxLen] <;> omega)
  obtain ⟨v31,h16,hF⟩:=AaO hF;refine AC (AfY k _ h16) .nil ?_;by_cases h17 : v31=true
  ·replace hF:=AaX h17 hF;have h17_:=h17;try simp at h17_
   by_cases h18 : v21=0
   ·replace hF:=AaX h18 hF;have h18q : v21=0:=h18;have h18_:=Abx h18q;have h18__:=Abw h18q;by_cases h19 : v24=0
    ·replace hF:=AaX h19 hF;have h19q : v24=0:=h19;have h19_:=Abx h19q;have h19__:=Abw h19q;by_cases h20 : v29≤v30
     ·replace hF:=AaX h20 hF;have h20_:=h20;try simp at h20_
      by_cases h21 : v30≤IntKind.wrap .i64 (v29+1)
      ·replace hF:=AaX h21 hF;have h21_:=h21;try simp at h21_
       have F1:=A9 h2 h2_ h17 h17_ h18_ h18__ h18q h19_ (A6 h19__ h19q h20 h20_ h21 h21_);try simp [F1]
       and_intros <;> first | exact GK g | apply r | omega | (simp [maxLen,F1] <;> omega)
       refine WK [(2,AV.bool (decide (v29≤(v14.length : Int))))] [] 14 (by simp [F1]) (by simp [F1]) ?_;simp only [Option.some.injEq] at hF;subst hF;refine AW.ret (hQ _ _ _ ?_ (AaF ?_)).1
       ·simp [Try.f4,F1]
       ·simp [F1]
      ·replace hF:=AaY h21 hF;have h21_:=h21;try simp at h21_
       have F2:=A9 h2 h2_ h17 h17_ h18_ h18__ h18q h19_ (A6 h19__ h19q h20 h20_ h21 h21_);try simp [F2]
       and_intros <;> first | exact GK g | apply r | omega | (simp [maxLen,F2] <;> omega)
       refine WK [(2,AV.bool false)] [] 14 (by simp [F2]) (by simp [F2]) ?_;simp only [Option.some.injEq] at hF;subst hF;refine AW.ret (hQ _ _ _ ?_ (AaF ?_)).1
       ·simp [Try.f4,F2]
       ·simp [F2]
     ·replace hF:=AaY h20 hF;have h20_:=h20;try simp at h20_
      have F3:=A9 h2 h2_ h17 h17_ h18_ h18__ h18q h19_ (A4 h19__ h19q h20 h20_);try simp [F3]
      and_intros <;> first | exact GK g | apply r | omega | (simp [maxLen,F3] <;> omega)
      refine WK [(2,AV.bool false)] [] 14 (by simp [F3]) (by simp [F3]) ?_;simp only [Option.some.injEq] at hF;subst hF;refine AW.ret (hQ _ _ _ ?_ (AaF ?_)).1
      ·simp [Try.f4,F3]
      ·simp [F3]
    ·replace hF:=AaY h19 hF;have h19_:=Abo h19;have h19__:=Abt h19;have F4:=A9 h2 h2_ h17 h17_ h18_ h18__ h18q h19 (A2 h19_ h19__);try simp [F4]
     and_intros <;> first | exact GK g | apply r | omega | (simp [maxLen,F4] <;> omega)
     refine WK [(2,AV.bool false)] [] 14 (by simp [F4]) (by simp [F4]) ?_;simp only [Option.some.injEq] at hF;subst hF;refine AW.ret (hQ _ _ _ ?_ (AaF ?_)).1
     ·simp [Try.f4,F4]
     ·simp [F4]
   ·replace hF:=AaY h18 hF;have h18_:=Abo h18;have h18__:=Abt h18;have F5:=A7 h2 h2_ h17 h17_ h18 h18_ h18__;try simp [F5]
    and_intros <;> first | exact GK g | apply r | omega | (simp [maxLen,F5] <;> omega)
    refine WK [(2,AV.bool false)] [] 14 (by simp [F5]) (by simp [F5]) ?_;simp only [Option.some.injEq] at hF;subst hF;refine AW.ret (hQ _ _ _ ?_ (AaF ?_)).1
    ·simp [Try.f4,F5]
    ·simp [F5]
  ·replace hF:=AaY h17 hF;have h17_:=h17;try simp at h17_
   have F6:=A4 h2 h2_ h17 h17_;try simp [F6]
   and_intros <;> first | exact GK g | apply r | omega | (simp [maxLen,F6] <;> omega)
   refine WK [(2,AV.bool false)] [] 14 (by simp [F6]) (by simp [F6]) ?_;simp only [Option.some.injEq] at hF;subst hF;refine AW.ret (hQ _ _ _ ?_ (AaF ?_)).1
   ·simp [Try.f4,F6]
   ·simp [F6]
end Go.TF
