import Derived.Test.YtomgdcnbceiggaaSmtWal29
set_option linter.unusedVariables false
set_option linter.unusedSimpArgs false
set_option maxRecDepth 100000
set_option maxHeartbeats 4000000
namespace Go.TF
open Go Go.Abs Go.Proofs Go.Proofs.YtomgdcnbceiggaaSmT
theorem AjU (k : Nat) (v0 : (List Int)) (v1 : Bool) (hF : Afl k v0=some v1) :
 AbP Try.prog 23 [AV.lst false false (List.map (AV.int .i64) v0)] [] (AV.bool v1) []:=by
 unfold Afl at hF;refine EN Try.func23 ?_;intro c0 w0 Q h0 hQ
 refine WJ [(0,Lz v0)] [] 0 (by simp) ?_;refine SW trivial [] [none] [] [] [] [] 0 ?_;refine SW trivial [] N4 [0] [(2,.bool (decide ((v0.length : Int)≤400)))] [] [] 0 ?_;cases hF;refine AW.ret (hQ _ _ _ ?_ (AaE ?_)).1
 ·simp [Try.f23]
 ·simp
theorem AfD (k : Nat) (v0 v1 : (List Int)) (hF : AcZ k v0=some v1) :
 AbP Try.prog 81 [AV.lst false false (List.map (AV.int .i64) v0)] [] (Sc 0 v1) [some (Gi v1)]:=by
 unfold AcZ at hF;obtain ⟨h1,hF⟩:=AaP hF;cases hF;refine EN Try.func81 ?_;intro c0 w0 Q h0 hQ
 refine WJ [(0,Lz v0)] [] 0 (by simp) ?_;refine SQ [] [none] fun _ _ g r=>?_;simp
 refine ⟨g _ (by kernel_rfl),r _ _ _ ?_⟩;refine WJ [(0,Lz v0)] [] 0 (by simp) ?_;refine AW.nilSplit (fl:=false) (xs:=List.map (AV.int .i64) v0) 0 (by decide) (by simp) (fun hx=>?_) ?_
 ·simp at hx
  subst hx;refine WJ [(0,.lst true false [])] [] 0 (by simp) ?_;refine AW.seq fun K2 hK2=>?_;refine SQ [] N2 fun _ _ g r=>?_;simp
  refine ⟨g _ (by kernel_rfl),r _ _ _ ?_⟩;refine WJ [(4,.bool true)] [] 0 (by simp) ?_;refine CT (by simp) ?_;refine SQ [] [none] fun _ _ g r=>?_;simp
  refine ⟨g _ (by kernel_rfl),r _ _ _ ?_⟩;refine WJ [(2,.lst true true [])] [] 0 (by simp) ?_;refine AW.own' 2 1 true (by simp) (by decide) ?_;refine AW.ret (hQ _ _ _ ?_ (AaE ?_)).1
  ·simp [Try.f81]
  ·simp
 ·refine WJ [(0,AV.nn (Lz v0))] [] 0 (by simp) ?_;refine AW.seq fun K2 hK2=>?_;refine SQ [] N2 fun _ _ g r=>?_;simp
  refine ⟨g _ (by kernel_rfl),r _ _ _ ?_⟩;refine WJ [(0,AV.nn (Lz v0)),(4,.bool false)] [] 0 (by simp) ?_;refine AW.flg [(0,Lz v0)] [] ⟨.nn,trivial⟩ trivial (by decide) ?_;refine WJ [(0,Lz v0),(4,.bool false)] [] 0 (by simp) ?_;refine CF (by simp) ?_;refine AW.skip (hK2 _ _ _ ?_);refine SQ [7] N4 fun _ _ g r=>?_;simp
  and_intros <;> first | exact GK g | apply r | omega | (unfold maxLen; omega)
  refine WJ [(2,Sc 0 v0)] [(0,Gi v0)] 1 (by simp) ?_;refine AW.ret (hQ _ _ _ ?_ (AaE ?_)).1
  ·simp [Try.f81]
  ·simp
theorem Adr (k : Nat) (v0 v1 : (List AaD)) (hF : Abq k v0=some v1) :
 AbP Try.prog 82 [Q0 v0] [] (AV.slc 0 0 3 v1.length false) [some (.grow (AaM (List.map AaD.av v1)))]:=by
 unfold Abq at hF;obtain ⟨h1,hF⟩:=AaP hF;cases hF;refine EN Try.func82 ?_;intro c0 w0 Q h0 hQ
 refine WJ [(0,Q0 v0)] [] 0 (by simp) ?_;refine SQ [] [none] fun _ _ g r=>?_;simp
 refine ⟨g _ (by kernel_rfl),r _ _ _ ?_⟩;refine WJ [(0,Q0 v0)] [] 0 (by simp) ?_;refine AW.nilSplit (fl:=false) (xs:=List.map AaD.av v0) 0 (by decide) (by simp) (fun hx=>?_) ?_
 ·simp at hx
  subst hx;refine WJ [(0,.lst true false [])] [] 0 (by simp) ?_;refine AW.seq fun K2 hK2=>?_;refine SQ [] N2 fun _ _ g r=>?_;simp
  refine ⟨g _ (by kernel_rfl),r _ _ _ ?_⟩;refine WJ [(4,.bool true)] [] 0 (by simp) ?_;refine CT (by simp) ?_;refine SQ [] [none] fun _ _ g r=>?_;simp
  refine ⟨g _ (by kernel_rfl),r _ _ _ ?_⟩;refine WJ [(2,.lst true true [])] [] 0 (by simp) ?_;refine AW.own' 2 3 true (by simp) (by decide) ?_;refine AW.ret (hQ _ _ _ ?_ (AaE ?_)).1
  ·simp [Try.f82]
  ·simp
 ·refine WJ [(0,AV.nn (Q0 v0))] [] 0 (by simp) ?_;refine AW.seq fun K2 hK2=>?_;refine SQ [] N2 fun _ _ g r=>?_;simp
  refine ⟨g _ (by kernel_rfl),r _ _ _ ?_⟩;refine WJ [(0,AV.nn (Q0 v0)),(4,.bool false)] [] 0 (by simp) ?_;refine AW.flg [(0,Q0 v0)] [] ⟨.nn,trivial⟩ trivial (by decide) ?_;refine WJ [(0,Q0 v0),(4,.bool false)] [] 0 (by simp) ?_;refine CF (by simp) ?_;refine AW.skip (hK2 _ _ _ ?_);refine SQ [7] N4 fun _ _ g r=>?_;simp
  and_intros <;> first | exact GK g | apply r | omega | (unfold maxLen; omega)
  refine WJ [(2,.slc 0 0 3 v0.length false)] [(0,.grow (AaM (List.map AaD.av v0)))] 1 (by simp) ?_;refine AW.ret (hQ _ _ _ ?_ (AaE ?_)).1
  ·simp [Try.f82]
  ·simp
theorem AdM (k : Nat) (v0 v1 : (List Int)) (hF : Abk k v0=some v1) :
 AbP Try.prog 115 [AV.lst false false (List.map (AV.int .u8) v0)] [] (Sc 0 v1) [some (.grow (List.map (AV.int .u8) v1))]:=by
 unfold Abk at hF;obtain ⟨h1,hF⟩:=AaP hF;cases hF;refine EN Try.func115 ?_;intro c0 w0 Q h0 hQ
 refine WJ [(0,Lb v0)] [] 0 (by simp) ?_;refine SQ [] [none] fun _ _ g r=>?_;simp
 refine ⟨g _ (by kernel_rfl),r _ _ _ ?_⟩;refine WJ [(0,Lb v0)] [] 0 (by simp) ?_;refine AW.nilSplit (fl:=false) (xs:=List.map (AV.int .u8) v0) 0 (by decide) (by simp) (fun hx=>?_) ?_
 ·simp at hx
  subst hx;refine WJ [(0,.lst true false [])] [] 0 (by simp) ?_;refine AW.seq fun K2 hK2=>?_;refine SQ [] N2 fun _ _ g r=>?_;simp
  refine ⟨g _ (by kernel_rfl),r _ _ _ ?_⟩;refine WJ [(4,.bool true)] [] 0 (by simp) ?_;refine CT (by simp) ?_;refine SQ [] [none] fun _ _ g r=>?_;simp
  refine ⟨g _ (by kernel_rfl),r _ _ _ ?_⟩;refine WJ [(2,.lst true true [])] [] 0 (by simp) ?_;refine AW.own' 2 1 true (by simp) (by decide) ?_;refine AW.ret (hQ _ _ _ ?_ (AaE ?_)).1
  ·simp [Try.f115]
  ·simp
 ·refine WJ [(0,AV.nn (Lb v0))] [] 0 (by simp) ?_;refine AW.seq fun K2 hK2=>?_;refine SQ [] N2 fun _ _ g r=>?_;simp
  refine ⟨g _ (by kernel_rfl),r _ _ _ ?_⟩;refine WJ [(0,AV.nn (Lb v0)),(4,.bool false)] [] 0 (by simp) ?_;refine AW.flg [(0,Lb v0)] [] ⟨.nn,trivial⟩ trivial (by decide) ?_;refine WJ [(0,Lb v0),(4,.bool false)] [] 0 (by simp) ?_;refine CF (by simp) ?_;refine AW.skip (hK2 _ _ _ ?_);refine SQ [7] N4 fun _ _ g r=>?_;simp
  and_intros <;> first | exact GK g | apply r | omega | (unfold maxLen; omega)
  refine WJ [(2,Sc 0 v0)] [(0,.grow (List.map (AV.int .u8) v0))] 1 (by simp) ?_;refine AW.ret (hQ _ _ _ ?_ (AaE ?_)).1
  ·simp [Try.f115]
  ·simp
theorem AiI (k : Nat) (v0 : (List Int)) (v1 : Int) (v2 : (List Int)) (hF : Acp k v0 v1=some v2) :
 AbP Try.prog 114 [Sc 0 v0,AV.int .i64 v1] [.grow (List.map (AV.int .u8) v0)] (Sc 1 v2) [none,some (.grow (List.map (AV.int .u8) v2))]:=by
 unfold Acp at hF;refine EN Try.func114 ?_;intro c0 w0 Q h0 hQ
 refine WJ [(0,Sc 0 v0),(1,Iz v1)] [(0,.grow (List.map (AV.int .u8) v0))] 1 (by simp) ?_;refine SW trivial [] [none] [] [] [] [] 1 ?_;refine AW.seq fun K0 hK0=>?_;refine SW trivial [] [none] [] [(5,Iz 56)] [] [] 1 ?_;refine AW.block ?_;refine AW.rnm (m:=1) h0 [(1,0)] [(0,Sc 1 v0),(1,Iz v1),(5,Iz 56)] [(1,.grow (List.map (AV.int .u8) v0))] 2 (by decide) (by decide) (by decide) rfl (by simp) (by simp) ?_;refine AW.loopF (α:=(Int×(List Int))) (fun n (v3,v4)=>Acp.L1 k v1 n v3 v4=some v2) (fun (v3,v4)=>[(0,Sc 1 v4),(1,Iz v1),(5,Iz v3)]) (fun (v3,v4)=>[(1,.grow (List.map (AV.int .u8) v4))]) 2 k ((56,v0)) hF (by simp) (by simp) (by simp) ?_;rintro (_|n1) ⟨v3,v4⟩ hF K1 hK1
 ·try dsimp only at hF
  rw [Acp.L1] at hF; cases hF
 try dsimp only at hF
 rw [Acp.L1] at hF;refine AW.seq fun K2 hK2=>?_;refine SW trivial [] N2 [] [(7,.bool (decide (0≤v3)))] [] [] 2 ?_;rcases IFo hF with ⟨h1,hF⟩|⟨h1,hF⟩
 ·have h1_:=h1;try simp at h1_
  refine CT (by simp [h1,h1_] <;> omega) ?_;refine AW.skip (hK2 _ _ _ ?_);refine AW.seq fun K3 hK3=>?_;refine AW.block ?_;refine RG [] N10 fun _ _ g r=>?_;obtain ⟨h2,hF⟩:=AaP hF;obtain ⟨h3,hF⟩:=AaP hF;have h3_:=h3;try simp at h3_
  have F1:=A4 h1 h1_ h2 h3;try simp [F1]
  and_intros <;> first | exact GK g | apply r | omega | (simp [maxLen,F1] <;> omega)
  refine hK3 _ _ _ ?_;refine WK [(0,.slc 2 0 1 ((v4++([IntKind.wrap .u8 (Int.fdiv (IntKind.wrap .u64 v1) (2 ^ (min ((IntKind.wrap .u64 v3).toNat) 64)))] : List Int)).length) false),(1,Iz v1),(5,Iz v3)] [(2,.grow (List.map (AV.int .u8) (v4++([IntKind.wrap .u8 (Int.fdiv (IntKind.wrap .u64 v1) (2 ^ (min ((IntKind.wrap .u64 v3).toNat) 64)))] : List Int))))] 3 (by simp [F1] <;> omega) (by simp [F1]) ?_;refine RG [] N3 fun _ _ g r=>?_;try simp [F1]
  and_intros <;> first | exact GK g | apply r | omega | (simp [maxLen,F1] <;> omega)
  refine hK1 _ _ _ ?_;refine Can.weak [(0,.slc 2 0 1 ((v4++([IntKind.wrap .u8 (Int.fdiv (IntKind.wrap .u64 v1) (2 ^ (min ((IntKind.wrap .u64 v3).toNat) 64)))] : List Int)).length) false),(1,Iz v1),(5,Iz (IntKind.wrap .i64 (v3-8)))] [(2,.grow (List.map (AV.int .u8) (v4++([IntKind.wrap .u8 (Int.fdiv (IntKind.wrap .u64 v1) (2 ^ (min ((IntKind.wrap .u64 v3).toNat) 64)))] : List Int))))] 3 (by simp [F1] <;> omega) (by simp [F1]) (by simp) ?_;refine Can.ren (m:=1) h0 [(1,2)] [(0,.slc 1 0 1 ((v4++([IntKind.wrap .u8 (Int.fdiv (IntKind.wrap .u64 v1) (2 ^ (min ((IntKind.wrap .u64 v3).toNat) 64)))] : List Int)).length) false),(1,Iz v1),(5,Iz (IntKind.wrap .i64 (v3-8)))] [(1,.grow (List.map (AV.int .u8) (v4++([IntKind.wrap .u8 (Int.fdiv (IntKind.wrap .u64 v1) (2 ^ (min ((IntKind.wrap .u64 v3).toNat) 64)))] : List Int))))] 2 (by decide) (by decide) (by decide) rfl (by simp [F1]) (by simp [F1]) ?_;exact NX (k':=n1) ((IntKind.wrap .i64 (v3-8),v4++([IntKind.wrap .u8 (Int.fdiv (IntKind.wrap .u64 v1) (2 ^ (min ((IntKind.wrap .u64 v3).toNat) 64)))] : List Int))) hF (by simp [F1]) (by simp [F1])
 ·have h1_:=h1;try simp at h1_
  refine CF (by simp [h1,h1_] <;> omega) ?_;refine AW.exit ?_;try simp
  refine hK0 _ _ _ ?_;refine SW (A2 h1 h1_) [] N2 [0,1,5] [(4,Sc 1 v4)] [] [] 2 ?_;cases hF;exact AW.ret (hQ _ _ _ (by simp [Try.f114,h1,h1_]) (AaE (by simp [h1,h1_]))).1
theorem Ac8 (k : Nat) (v0 : (List Int)) (v1 : Int) (v2 : (List Int)) (hF : Ac7 k v0 v1=some v2) :
 AbP Try.prog 84 [AV.lst false false (List.map (AV.int .u8) v0),AV.int .i64 v1] [] (Sc 0 v2) [some (.grow (List.map (AV.int .u8) v2))]:=by
 unfold Ac7 at hF;refine EN Try.func84 ?_;intro c0 w0 Q h0 hQ
 refine WJ [(0,Lb v0),(1,Iz v1)] [] 0 (by simp) ?_;refine SW trivial [] [none] [] [] [] [] 0 ?_;refine SQ [] N5 fun _ _ g r=>?_;try simp
 and_intros
 try any_goals first | omega | (simp [maxLen] <;> omega)
 obtain ⟨v3,h1,hF⟩:=AaG hF;refine AC (AdM k _ _ h1) (.cons (.same (by simp)) .nil) ?_;try simp
 and_intros
 try any_goals first | omega | (simp [maxLen] <;> omega)
 obtain ⟨v4,h2,hF⟩:=AaG hF;refine AaO (AiI k _ _ _ h2) (by simp) [0] [] [0] rfl (.cons (.same (by simp)) (.cons (.same (by simp)) .nil)) (by simp) (by decide) (by simp) (by simp) (.inl rfl) (by simp) (by simp) ?_;try simp
 and_intros <;> first | exact GK g | apply r | omega | (simp [maxLen] <;> omega)
 refine RM h0 [(0,1)] [(4,Sc 0 v4)] [(0,.grow (List.map (AV.int .u8) v4))] 1 (by simp) (by simp) ?_;cases hF;refine AW.ret (hQ _ _ _ ?_ (AaE ?_)).1
 ·simp [Try.f84]
 ·simp
theorem Aev (k : Nat) (v0 : (List Int)) (v1 : ByteArray) (v2 : (List Int)) (hF : Adp k v0 v1=some v2) :
 AbP Try.prog 83 [AV.lst false false (List.map (AV.int .u8) v0),AV.str v1] [] (Sc 0 v2) [some (.grow (List.map (AV.int .u8) v2))]:=by
 unfold Adp at hF;refine EN Try.func83 ?_;intro c0 w0 Q h0 hQ
 refine WJ [(0,Lb v0),(1,.str v1)] [] 0 (by simp) ?_;refine SW trivial [] [none] [] [] [] [] 0 ?_;refine SQ [] N7 fun _ _ g r=>?_;try simp
 and_intros
 try any_goals first | omega | (simp [maxLen] <;> omega)
 obtain ⟨v3,h1,hF⟩:=AaG hF;refine AC (Ac8 k _ _ _ h1) (.cons (.same (by simp)) (.cons (.same (by simp)) .nil)) ?_;obtain ⟨h2,hF⟩:=AaP hF;have h2_:=h2;try simp at h2_
 try simp [h2]
 and_intros <;> first | exact GK g | apply r | omega | (simp [h2,maxLen] <;> omega)
 refine RM h0 [(0,1)] [(4,.slc 0 0 1 ((v3++(bI v1)).length) false)] [(0,.grow (List.map (AV.int .u8) (v3++(bI v1))))] 1 (by simp [h2] <;> omega) (by simp [h2]) ?_;cases hF;exact AW.ret (hQ _ _ _ (by simp [Try.f83,h2]) (AaE (by simp [h2]))).1
theorem AkK (k : Nat) (v0 v1 v2 : (List Int)) (hF : AcQ k v0 v1=some v2) :
 AbP Try.prog 98 [AV.lst false false (List.map (AV.int .u8) v0),AV.lst false false (List.map (AV.int .i64) v1)] [] (Sc 0 v2) [some (.grow (List.map (AV.int .u8) v2))]:=by
 unfold AcQ at hF;refine EN Try.func98 ?_;intro c0 w0 Q h0 hQ
 refine WJ [(0,Lb v0),(1,Lz v1)] [] 0 (by simp) ?_;refine SW trivial [] [none] [] [] [] [] 0 ?_;obtain ⟨v3,h1,hF⟩:=AaG hF;refine CL trivial [] N5 (Ac8 k _ _ _ h1) [0] [(5,Sc 0 v3)] [] [(0,.grow (List.map (AV.int .u8) v3))] 1 ?_;refine AW.seq fun K0 hK0=>?_;refine SW trivial [] N3 [1] [(12,Lz v1),(13,Iz (v1.length : Int)),(14,Iz 0)] [] [] 1 ?_;refine AW.block ?_;refine AW.loopF (α:=(Int×(List Int))) (fun n (v4,v5)=>AcQ.L1 k v1 n v4 v5=some v2) (fun (v4,v5)=>[(5,Sc 0 v5),(12,Lz v1),(13,Iz (v1.length : Int)),(14,Iz v4)]) (fun (v4,v5)=>[(0,.grow (List.map (AV.int .u8) v5))]) 1 k ((0,v3)) hF (by simp) (by simp) (by simp) ?_;rintro (_|n1) ⟨v4,v5⟩ hF K1 hK1
 ·try dsimp only at hF
  rw [AcQ.L1] at hF; cases hF
 try dsimp only at hF
 rw [AcQ.L1] at hF;refine SW trivial [] [none] [] [(15,.bool (decide (v4<(v1.length : Int))))] [] [] 1 ?_;refine AW.seq fun K2 hK2=>?_;rcases IFo hF with ⟨h2,hF⟩|⟨h2,hF⟩
 ·have h2_:=h2;try simp at h2_
  refine CT (by simp [h2,h2_] <;> omega) ?_;refine AW.skip (hK2 _ _ _ ?_);refine AW.seq fun K3 hK3=>?_;refine AW.block ?_;refine SR [] N3 fun _ _ g r=>?_;obtain ⟨v6,h3,h4,h5,hF⟩:=Aai hF;have h5_:=AbA h5;try simp at h5_
  have h4_:=h4;try simp at h4_
  have F1:=A7 h2 h2_ h3 h4 h5 h5_ h4_;refine TL F1 g r [] [(7,Iz v6)] [] [] 1 ?_;refine RG [] N4 fun _ _ g r=>?_;try simp [F1]
  and_intros
  try any_goals first | omega | (simp [maxLen,F1] <;> omega)
  obtain ⟨v7,h6,hF⟩:=AaG hF;refine AaO (AiI k _ _ _ h6) (by simp) [0] [] [0] rfl (.cons (.same (by simp [F1])) (.cons (.same (by simp [F1])) .nil)) (by simp [F1]) (by decide) (by simp) (by simp) (.inl rfl) (by simp) (by simp) ?_;try simp [F1]
  and_intros <;> first | exact GK g | apply r | omega | (simp [maxLen,F1] <;> omega)
  refine hK3 _ _ _ ?_;refine WJ [(5,Sc 1 v7),(12,Lz v1),(13,Iz (v1.length : Int)),(14,Iz v4)] [(1,.grow (List.map (AV.int .u8) v7))] 2 (by simp [F1]) ?_;refine RG [] N2 fun _ _ g r=>?_;try simp [F1]
  and_intros <;> first | exact GK g | apply r | omega | (simp [maxLen,F1] <;> omega)
  refine hK1 _ _ _ ?_;refine RN h0 [(0,1)] [(5,Sc 0 v7),(12,Lz v1),(13,Iz (v1.length : Int)),(14,Iz (IntKind.wrap .i64 (v4+1)))] [(0,.grow (List.map (AV.int .u8) v7))] 1 (by simp [F1]) (by simp [F1]) ?_;exact NX (k':=n1) ((IntKind.wrap .i64 (v4+1),v7)) hF (by simp [F1]) (by simp [F1])
 ·have h2_:=h2;try simp at h2_
  refine CF (by simp [h2,h2_] <;> omega) ?_;refine AW.exit ?_;try simp
  refine hK0 _ _ _ ?_;refine SW (A2 h2 h2_) [] N2 [5,12,13,14] [(4,Sc 0 v5)] [] [] 1 ?_;cases hF;exact AW.ret (hQ _ _ _ (by simp [Try.f98,h2,h2_]) (AaE (by simp [h2,h2_]))).1
abbrev Aa4 (v0 v1 : Int) (v2 : ByteArray) (v3 v4 v5 v6 v7 : Int) (v8 : (List Int)) (v9 : (List AaD)) (v10 : ByteArray) (v11 : Int) (v12 : ByteArray) : Aan := .cells [Iz v0,Iz v1,AV.str v2,Iz v3,Iz v4,Iz v5,Iz v6,Iz v7,Lz v8,Q0 v9,AV.str v10,Iz v11,AV.str v12]
theorem Adc (k : Nat) (v0 v1 : Int) (v2 : ByteArray) (v3 v4 v5 v6 v7 : Int) (v8 : (List Int)) (v9 : (List AaD)) (v10 : ByteArray) (v11 : Int) (v12 : ByteArray) (v13 : (List Int)) (hF : Aao k v0 v1 v2 v3 v4 v5 v6 v7 v8 v9 v10 v11 v12=some v13) :
 AbP Try.prog 55 [AV.agg [AV.int .i64 v0,AV.int .i64 v1,AV.str v2,AV.int .i64 v3,AV.int .i64 v4,AV.int .i64 v5,AV.int .i64 v6,AV.int .i64 v7,AV.lst false false (List.map (AV.int .i64) v8),Q0 v9,AV.str v10,AV.int .i64 v11,AV.str v12]] [] (Sc 0 v13) [some (.grow (List.map (AV.int .u8) v13))]:=by
 unfold Aao at hF;refine EN Try.func55 ?_;intro c0 w0 Q h0 hQ
 refine WJ [(0,.agg [Iz v0,Iz v1,AV.str v2,Iz v3,Iz v4,Iz v5,Iz v6,Iz v7,Lz v8,Q0 v9,AV.str v10,Iz v11,AV.str v12])] [] 0 (by simp) ?_;refine SW trivial [] N2 [0] [(1,.ptr 0 0)] [] [(0,Aa4 v0 v1 v2 v3 v4 v5 v6 v7 v8 v9 v10 v11 v12)] 1 ?_;refine SR [] N4 fun _ _ g r=>?_;try simp
 and_intros
 try any_goals first | omega | (simp [maxLen] <;> omega)
 obtain ⟨v14,h1,hF⟩:=AaG hF;refine AC (Ac8 k _ _ _ h1) (.cons (Coe.fl (by simp)) (.cons (.same (by simp)) .nil)) ?_;refine TL trivial g r [] [(3,Sc 1 v14)] [] [(1,.grow (List.map (AV.int .u8) v14))] 2 ?_;refine AW.frz 1 (o := .grow (List.map (AV.int .u8) v14)) (by simp) rfl [(3,Lb v14)] [] ⟨(.l (by simp) (by simp) (by simp) (by simp)),trivial⟩ trivial ?_;refine WJ [(1,.ptr 0 0),(3,Lb v14)] [(0,Aa4 v0 v1 v2 v3 v4 v5 v6 v7 v8 v9 v10 v11 v12)] 2 (by simp) ?_;obtain ⟨v15,h2,hF⟩:=AaG hF;refine CL trivial [] N5 (Ac8 k _ _ _ h2) [3] [(3,Sc 2 v15)] [] [(2,.grow (List.map (AV.int .u8) v15))] 3 ?_;refine AW.frz 2 (o := .grow (List.map (AV.int .u8) v15)) (by simp) rfl [(3,Lb v15)] [] ⟨(.l (by simp) (by simp) (by simp) (by simp)),trivial⟩ trivial ?_;refine WJ [(1,.ptr 0 0),(3,Lb v15)] [(0,Aa4 v0 v1 v2 v3 v4 v5 v6 v7 v8 v9 v10 v11 v12)] 3 (by simp) ?_;obtain ⟨v16,h3,hF⟩:=AaG hF;refine CL trivial [] N5 (Aev k _ _ _ h3) [3] [(3,Sc 3 v16)] [] [(3,.grow (List.map (AV.int .u8) v16))] 4 ?_;refine AW.frz 3 (o := .grow (List.map (AV.int .u8) v16)) (by simp) rfl [(3,Lb v16)] [] ⟨(.l (by simp) (by simp) (by simp) (by simp)),trivial⟩ trivial ?_;refine WJ [(1,.ptr 0 0),(3,Lb v16)] [(0,Aa4 v0 v1 v2 v3 v4 v5 v6 v7 v8 v9 v10 v11 v12)] 4 (by simp) ?_;refine AW.seq fun K0 hK0=>?_;refine SW trivial [] N12 [] [(29,.agg (List.map (AV.int .i64) ([v3,v4,v5,v6,v7] : List Int))),(30,Iz 0)] [] [] 4 ?_;refine AW.block ?_;refine RM h0 [(0,0)] [(1,.ptr 0 0),(3,Lb v16),(29,.agg (List.map (AV.int .i64) ([v3,v4,v5,v6,v7] : List Int))),(30,Iz 0)] [(0,Aa4 v0 v1 v2 v3 v4 v5 v6 v7 v8 v9 v10 v11 v12)] 1 (by simp) (by simp) ?_;refine AW.loopF (α:=((List Int)×Int)) (fun n (v17,v18)=>Aao.L1 k v3 v4 v5 v6 v7 v8 v9 v10 n v17 v18=some v13) (fun (v17,v18)=>[(1,.ptr 0 0),(3,Lb v17),(29,.agg (List.map (AV.int .i64) ([v3,v4,v5,v6,v7] : List Int))),(30,Iz v18)]) (fun (v17,v18)=>[(0,Aa4 v0 v1 v2 v3 v4 v5 v6 v7 v8 v9 v10 v11 v12)]) 1 k ((v16,0)) hF (by simp) (by simp) (by simp) ?_;rintro (_|n1) ⟨v17,v18⟩ hF K1 hK1
 ·try dsimp only at hF
  rw [Aao.L1] at hF; cases hF
 try dsimp only at hF
 rw [Aao.L1] at hF;refine SW trivial [] [none] [] [(31,.bool (decide (v18<5)))] [] [] 1 ?_;refine AW.seq fun K2 hK2=>?_;rcases IFo hF with ⟨h4,hF⟩|⟨h4,hF⟩
 ·have h4_:=h4;try simp at h4_
  refine CT (by simp [h4,h4_] <;> omega) ?_;refine AW.skip (hK2 _ _ _ ?_);refine AW.seq fun K3 hK3=>?_;refine AW.block ?_;refine SR [] N2 fun _ _ g r=>?_;obtain ⟨h5,hF⟩:=AaP hF;obtain ⟨v19,h6,h7,h8,hF⟩:=Aai hF;have h8_:=AbA h8;try simp at h8_
  have h7_:=h7;try simp at h7_
  have h8__:=AbA (AmU ((AV.int .i64)) h8);try simp at h8__
  have F1:=A9 h4 h4_ h5 h6 h7 h8 h8_ h7_ h8__;refine TL F1 g r [] [(5,Iz v19)] [] [] 1 ?_;refine RG [] N4 fun _ _ g r=>?_;try simp [F1]
  and_intros
  try any_goals first | omega | (simp [maxLen,F1] <;> omega)
  obtain ⟨v20,h9,hF⟩:=AaG hF;refine AC (Ac8 k _ _ _ h9) (.cons (.same (by simp [F1])) (.cons (.same (by simp [F1])) .nil)) ?_;try simp [F1]
  and_intros <;> first | exact GK g | apply r | omega | (simp [maxLen,F1] <;> omega)
  refine hK3 _ _ _ ?_;refine WJ [(1,.ptr 0 0),(3,Sc 1 v20),(29,.agg (List.map (AV.int .i64) ([v3,v4,v5,v6,v7] : List Int))),(30,Iz v18)] [(0,Aa4 v0 v1 v2 v3 v4 v5 v6 v7 v8 v9 v10 v11 v12),(1,.grow (List.map (AV.int .u8) v20))] 2 (by simp [F1]) ?_;refine AW.frz 1 (o := .grow (List.map (AV.int .u8) v20)) (by simp [F1]) rfl [(3,Lb v20)] [] ⟨(.l (by simp) (by simp) (by simp) (by simp)),trivial⟩ trivial ?_;refine WJ [(1,.ptr 0 0),(3,Lb v20),(29,.agg (List.map (AV.int .i64) ([v3,v4,v5,v6,v7] : List Int))),(30,Iz v18)] [(0,Aa4 v0 v1 v2 v3 v4 v5 v6 v7 v8 v9 v10 v11 v12)] 2 (by simp [F1]) ?_;refine RG [] N2 fun _ _ g r=>?_;try simp [F1]
  and_intros <;> first | exact GK g | apply r | omega | (simp [maxLen,F1] <;> omega)
  refine hK1 _ _ _ ?_;refine RN h0 [(0,0)] [(1,.ptr 0 0),(3,Lb v20),(29,.agg (List.map (AV.int .i64) ([v3,v4,v5,v6,v7] : List Int))),(30,Iz (IntKind.wrap .i64 (v18+1)))] [(0,Aa4 v0 v1 v2 v3 v4 v5 v6 v7 v8 v9 v10 v11 v12)] 1 (by simp [F1]) (by simp [F1]) ?_;exact NX (k':=n1) ((v20,IntKind.wrap .i64 (v18+1))) hF (by simp [F1]) (by simp [F1])
 ·have h4_:=h4;try simp at h4_
  refine CF (by simp [h4,h4_] <;> omega) ?_;refine AW.exit ?_;try simp
  refine hK0 _ _ _ ?_;obtain ⟨v21,h10,hF⟩:=AaG hF;refine CL (A2 h4 h4_) [] N5 (AkK k _ _ _ h10) [3,29,30] [(3,Sc 1 v21)] [] [(1,.grow (List.map (AV.int .u8) v21))] 2 ?_;refine AW.frz 1 (o := .grow (List.map (AV.int .u8) v21)) (by simp [h4,h4_]) rfl [(3,Lb v21)] [] ⟨(.l (by simp) (by simp) (by simp) (by simp)),trivial⟩ trivial ?_;refine WJ [(1,.ptr 0 0),(3,Lb v21)] [(0,Aa4 v0 v1 v2 v3 v4 v5 v6 v7 v8 v9 v10 v11 v12)] 2 (by simp [h4,h4_]) ?_;obtain ⟨v22,h11,hF⟩:=AaG hF;refine CL (A2 h4 h4_) [] N6 (Ac8 k _ _ _ h11) [3] [(3,Sc 2 v22)] [] [(2,.grow (List.map (AV.int .u8) v22))] 3 ?_;refine AW.frz 2 (o := .grow (List.map (AV.int .u8) v22)) (by simp [h4,h4_]) rfl [(3,Lb v22)] [] ⟨(.l (by simp) (by simp) (by simp) (by simp)),trivial⟩ trivial ?_;refine WJ [(1,.ptr 0 0),(3,Lb v22)] [(0,Aa4 v0 v1 v2 v3 v4 v5 v6 v7 v8 v9 v10 v11 v12)] 3 (by simp [h4,h4_]) ?_;refine AW.seq fun K4 hK4=>?_;refine SW (A2 h4 h4_) [] N4 [] [(47,Q0 v9),(48,Iz (v9.length : Int)),(49,Iz 0)] [] [] 3 ?_;refine AW.block ?_;refine RM h0 [(0,0)] [(1,.ptr 0 0),(3,Lb v22),(47,Q0 v9),(48,Iz (v9.length : Int)),(49,Iz 0)] [(0,Aa4 v0 v1 v2 v3 v4 v5 v6 v7 v8 v9 v10 v11 v12)] 1 (by simp [h4,h4_]) (by simp [h4,h4_]) ?_;refine AW.loopF (α:=((List Int)×Int)) (fun n (v23,v24)=>Aao.L2 k v9 v10 n v23 v24=some v13) (fun (v23,v24)=>[(1,.ptr 0 0),(3,Lb v23),(47,Q0 v9),(48,Iz (v9.length : Int)),(49,Iz v24)]) (fun (v23,v24)=>[(0,Aa4 v0 v1 v2 v3 v4 v5 v6 v7 v8 v9 v10 v11 v12)]) 1 k ((v22,0)) hF (by simp [h4,h4_]) (by simp [h4,h4_]) (by simp) ?_;rintro (_|n2) ⟨v23,v24⟩ hF K5 hK5
  ·try dsimp only at hF
   rw [Aao.L2] at hF; cases hF
  try dsimp only at hF
  rw [Aao.L2] at hF;refine SW (A2 h4 h4_) [] [none] [] [(50,.bool (decide (v24<(v9.length : Int))))] [] [] 1 ?_;refine AW.seq fun K6 hK6=>?_;rcases IFo hF with ⟨h12,hF⟩|⟨h12,hF⟩
  ·have h12_:=h12;try simp at h12_
   have F2:=A4 h4 h4_ h12 h12_;refine CT (by simp [F2] <;> omega) ?_;refine AW.skip (hK6 _ _ _ ?_);refine AW.seq fun K7 hK7=>?_;refine AW.block ?_;refine SR [] N4 fun _ _ g r=>?_;obtain ⟨v25,h13,h14,h15,hF⟩:=Aai hF;have h15_:=AbA h15;try simp at h15_
   have h14_:=h14;try simp at h14_
   have F3:=A6 F2 h13 h14 h15 h15_ h14_;refine TL F3 g r [] [(7,.ptr 1 0)] [] [(1,.cells [Iz v25.Author,Iz v25.Height,AV.str v25.Digest])] 2 ?_;refine RG [] N11 fun _ _ g r=>?_;try simp [F3]
   and_intros
   try any_goals first | omega | (simp [maxLen,F3] <;> omega)
   obtain ⟨v26,h16,hF⟩:=AaG hF;refine AC (Ac8 k _ _ _ h16) (.cons (.same (by simp [F3])) (.cons (.same (by simp [F3])) .nil)) ?_;try simp [F3]
   and_intros
   try any_goals first | omega | (simp [maxLen,F3] <;> omega)
   obtain ⟨v27,h17,hF⟩:=AaG hF;refine AaO (Ac8 k _ _ _ h17) (by simp) [] [2] [] rfl (.cons (Coe.l (o := .grow (List.map (AV.int .u8) v26)) (by simp [F3]) rfl (by simp [F3]) (by simp [AcA]) (by simp [F3]) (by simp [F3])) (.cons (.same (by simp [F3])) .nil)) (by simp [F3]) (by decide) (by simp) (by simp) (.inr ⟨by simp,by simp⟩) (by simp) (by simp) ?_;try simp [F3]
   and_intros
   try any_goals first | omega | (simp [maxLen,F3] <;> omega)
   obtain ⟨v28,h18,hF⟩:=AaG hF;refine AaO (Aev k _ _ _ h18) (by simp) [] [3] [] rfl (.cons (Coe.l (o := .grow (List.map (AV.int .u8) v27)) (by simp [F3]) rfl (by simp [F3]) (by simp [AcA]) (by simp [F3]) (by simp [F3])) (.cons (.same (by simp [F3])) .nil)) (by simp [F3]) (by decide) (by simp) (by simp) (.inr ⟨by simp,by simp⟩) (by simp) (by simp) ?_;try simp [F3]
   and_intros <;> first | exact GK g | apply r | omega | (simp [maxLen,F3] <;> omega)
   refine hK7 _ _ _ ?_;refine WJ [(1,.ptr 0 0),(3,Sc 4 v28),(47,Q0 v9),(48,Iz (v9.length : Int)),(49,Iz v24)] [(0,Aa4 v0 v1 v2 v3 v4 v5 v6 v7 v8 v9 v10 v11 v12),(4,.grow (List.map (AV.int .u8) v28))] 5 (by simp [F3]) ?_;refine AW.frz 4 (o := .grow (List.map (AV.int .u8) v28)) (by simp [F3]) rfl [(3,Lb v28)] [] ⟨(.l (by simp) (by simp) (by simp) (by simp)),trivial⟩ trivial ?_;refine WJ [(1,.ptr 0 0),(3,Lb v28),(47,Q0 v9),(48,Iz (v9.length : Int)),(49,Iz v24)] [(0,Aa4 v0 v1 v2 v3 v4 v5 v6 v7 v8 v9 v10 v11 v12)] 5 (by simp [F3]) ?_;refine RG [] N2 fun _ _ g r=>?_;try simp [F3]
   and_intros <;> first | exact GK g | apply r | omega | (simp [maxLen,F3] <;> omega)
   refine hK5 _ _ _ ?_;refine RN h0 [(0,0)] [(1,.ptr 0 0),(3,Lb v28),(47,Q0 v9),(48,Iz (v9.length : Int)),(49,Iz (IntKind.wrap .i64 (v24+1)))] [(0,Aa4 v0 v1 v2 v3 v4 v5 v6 v7 v8 v9 v10 v11 v12)] 1 (by simp [F3]) (by simp [F3]) ?_;exact NX (k':=n2) ((v28,IntKind.wrap .i64 (v24+1))) hF (by simp [F3]) (by simp [F3])
  ·have h12_:=h12;try simp at h12_
   have F4:=A4 h4 h4_ h12 h12_;refine CF (by simp [F4] <;> omega) ?_;refine AW.exit ?_;try simp
   refine hK4 _ _ _ ?_;refine SQ [] N5 fun _ _ g r=>?_;try simp [F4]
   and_intros
   try any_goals first | omega | (simp [maxLen,F4] <;> omega)
   obtain ⟨v29,h19,hF⟩:=AaG hF;refine AC (Aev k _ _ _ h19) (.cons (.same (by simp [F4])) (.cons (.same (by simp [F4])) .nil)) ?_;try simp [F4]
   and_intros <;> first | exact GK g | apply r | omega | (simp [maxLen,F4] <;> omega)
   refine RM h0 [(0,1)] [(2,Sc 0 v29)] [(0,.grow (List.map (AV.int .u8) v29))] 1 (by simp [F4]) (by simp [F4]) ?_;cases hF;exact AW.ret (hQ _ _ _ (by simp [Try.f55,F4]) (AaE (by simp [F4]))).1
theorem AhT (k : Nat) (v0 : (List Int)) (hF : Ad7 k=some v0) :
 AbP Try.prog 76 [] [] (AV.agg (List.map (AV.int .u32) v0)) []:=by
 unfold Ad7 at hF;refine EN Try.func76 ?_;intro c0 w0 Q h0 hQ
 refine WJ [] [] 0 (by simp) ?_;refine SW trivial [] [none] [] [(0,.ptr 0 0)] [] [(0,.cells (List.map (AV.int .u32) (List.replicate 64 0)))] 1 ?_;refine SR [] N2 fun _ _ g r=>?_;obtain ⟨h1,hF⟩:=AaP hF;refine TL h1 g r [] [] [0] [(0,.cells (List.map (AV.int .u32) ([1116352408,1899447441,3049323471,3921009573,961987163,1508970993,2453635748,2870763221,3624381080,310598401,607225278,1426881987,1925078388,2162078206,2614888103,3248222580,3835390401,4022224774,264347078,604807628,770255983,1249150122,1555081692,1996064986,2554220882,2821834349,2952996808,3210313671,3336571891,3584528711,113926993,338241895,666307205,773529912,1294757372,1396182291,1695183700,1986661051,2177026350,2456956037,2730485921,2820302411,3259730800,3345764771,3516065817,3600352804,4094571909,275423344,430227734,506948616,659060556,883997877,958139571,1322822218,1537002063,1747873779,1955562222,2024104815,2227730452,2361852424,2428436474,2756734187,3204031479,3329325298] : List Int)))] 1 ?_;obtain ⟨h2,hF⟩:=AaP hF;have h2_:=AfU h2 (by decide);cases hF;refine AW.ret (hQ _ _ _ ?_ (AaE ?_)).1
 ·have F1:=A3 h1 h2 h2_;simp [Try.f76,F1]
 ·have F2:=A3 h1 h2 h2_;simp [F2]
theorem Aen (k : Nat) (v0 v1 v2 : Int) (hF : Aax k v0 v1=some v2) :
 AbP Try.prog 112 [AV.int .u32 v0,AV.int .i64 v1] [] (AV.int .u32 v2) []:=by
 unfold Aax at hF;refine EN Try.func112 ?_;intro c0 w0 Q h0 hQ
 refine WJ [(0,.int .u32 v0),(1,Iz v1)] [] 0 (by simp) ?_;refine SW trivial [] [none] [] [] [] [] 0 ?_;refine SW trivial [] N4 [1] [(5,.int .u64 (AaK .and .u64 (IntKind.wrap .u64 v1) 31))] [] [] 0 ?_;refine SR [] N9 fun _ _ g r=>?_;obtain ⟨h1,hF⟩:=AaP hF;obtain ⟨h2,hF⟩:=AaP hF;refine TL (A2 h1 h2) g r [0,5] [(4,.int .u32 (AaK .or .u32 (IntKind.wrap .u32 (v0*2 ^ (min ((AaK .and .u64 (IntKind.wrap .u64 v1) 31).toNat) 32))) (Int.fdiv v0 (2 ^ (min ((IntKind.wrap .u64 (32-AaK .and .u64 (IntKind.wrap .u64 v1) 31)).toNat) 32)))))] [] [] 0 ?_;cases hF;exact AW.ret (hQ _ _ _ (by simp [Try.f112,h1,h2]) (AaE (by simp [h1,h2]))).1
theorem AbB (k : Nat) (v0 v1 v2 : Int) (hF : AaS k v0 v1=some v2) :
 AbP Try.prog 111 [AV.int .u32 v0,AV.int .i64 v1] [] (AV.int .u32 v2) []:=by
 unfold AaS at hF;refine EN Try.func111 ?_;intro c0 w0 Q h0 hQ
 refine WJ [(0,.int .u32 v0),(1,Iz v1)] [] 0 (by simp) ?_;refine SW trivial [] [none] [] [] [] [] 0 ?_;obtain ⟨v3,h1,hF⟩:=AaG hF;refine CL trivial [] N5 (Aen k _ _ _ h1) [0,1] [(4,.int .u32 v3)] [] [] 0 ?_;cases hF;refine AW.ret (hQ _ _ _ ?_ (AaE ?_)).1
 ·simp [Try.f111]
 ·simp
theorem Afq (k : Nat) (v0 v1 v2 v3 : (List Int)) (hF : AaN k v0 v1 v2=some v3) :
 AbP Try.prog 77 [AV.ptr 0 0,AV.lst false false (List.map (AV.int .u8) v1),AV.ptr 1 0] [.cells (List.map (AV.int .u32) v0),.cells (List.map (AV.int .u32) v2)] (AV.tup []) [some (.cells (List.map (AV.int .u32) v3)),some (.cells (List.map (AV.int .u32) v2))]:=by
 unfold AaN at hF;refine EN Try.func77 ?_;intro c0 w0 Q h0 hQ
 refine WJ [(0,.ptr 0 0),(1,Lb v1),(2,.ptr 1 0)] [(0,.cells (List.map (AV.int .u32) v0)),(1,.cells (List.map (AV.int .u32) v2))] 2 (by simp) ?_;refine SW trivial [] [none] [] [(6,.ptr 2 0)] [] [(2,.cells (List.map (AV.int .u32) (List.replicate 64 0)))] 3 ?_;refine AW.seq fun K0 hK0=>?_;refine SW trivial [] [none] [] [(19,Iz 0)] [] [] 3 ?_;refine AW.block ?_;refine AW.loopF (α:=(Int×(List Int))) (fun n (v4,v5)=>AaN.L1 k v0 v1 v2 n v4 v5=some v3) (fun (v4,v5)=>[(0,.ptr 0 0),(1,Lb v1),(2,.ptr 1 0),(6,.ptr 2 0),(19,Iz v4)]) (fun (v4,v5)=>[(0,.cells (List.map (AV.int .u32) v0)),(1,.cells (List.map (AV.int .u32) v2)),(2,.cells (List.map (AV.int .u32) v5))]) 3 k ((0,(List.replicate 64 0))) hF (by simp) (by simp) (by simp) ?_;rintro (_|n1) ⟨v4,v5⟩ hF K1 hK1
 ·try dsimp only at hF
  rw [AaN.L1] at hF; cases hF
 try dsimp only at hF
 rw [AaN.L1] at hF;refine SW trivial [] [none] [] [(20,.bool (decide (v4<16)))] [] [] 3 ?_;refine AW.seq fun K2 hK2=>?_;rcases IFo hF with ⟨h1,hF⟩|⟨h1,hF⟩
 ·have h1_:=h1;try simp at h1_
  refine CT (by simp [h1,h1_] <;> omega) ?_;refine AW.skip (hK2 _ _ _ ?_);refine AW.seq fun K3 hK3=>?_;refine AW.block ?_;refine SW (A2 h1 h1_) [] N2 [] [(7,Iz v4)] [] [] 3 ?_;refine RG [] N36 fun _ _ g r=>?_;obtain ⟨v6,h2,h3,h4,hF⟩:=Aai hF;have h4_:=AbA h4;try simp at h4_
  have h3_:=h3;try simp at h3_
  obtain ⟨v7,h5,h6,h7,hF⟩:=Aai hF;have h7_:=AbA h7;try simp at h7_
  have h6_:=h6;try simp at h6_
  obtain ⟨v8,h8,h9,h10,hF⟩:=Aai hF;have h10_:=AbA h10;try simp at h10_
  have h9_:=h9;try simp at h9_
  obtain ⟨v9,h11,h12,h13,hF⟩:=Aai hF;have h13_:=AbA h13;try simp at h13_
  have h12_:=h12;try simp at h12_
  obtain ⟨⟨h14,h16,h15⟩,hF⟩:=AaP hF;have h15_:=Aa8 h15;have F1:=A9 h1 h1_ h2 h3 h4 h4_ h3_ h5 (A9 h6 h7 h7_ h6_ h8 h9 h10 h10_ (A9 h9_ h11 h12 h13 h13_ h12_ h14 h15 (A2 h16 h15_)));try simp [F1]
  and_intros <;> first | exact GK g | apply r | omega | (simp [maxLen,F1] <;> omega)
  refine hK3 _ _ _ ?_;refine WJ [(0,.ptr 0 0),(1,Lb v1),(2,.ptr 1 0),(6,.ptr 2 0),(19,Iz v4)] [(0,.cells (List.map (AV.int .u32) v0)),(1,.cells (List.map (AV.int .u32) v2)),(2,.cells (List.map (AV.int .u32) (v5.set (v4).toNat (AaK .or .u32 (AaK .or .u32 (AaK .or .u32 (IntKind.wrap .u32 ((IntKind.wrap .u32 v6)*2 ^ (24))) (IntKind.wrap .u32 ((IntKind.wrap .u32 v7)*2 ^ (16)))) (IntKind.wrap .u32 ((IntKind.wrap .u32 v8)*2 ^ (8)))) (IntKind.wrap .u32 v9)))))] 3 (by simp [F1]) ?_;refine RG [] N2 fun _ _ g r=>?_;try simp [F1]
  and_intros <;> first | exact GK g | apply r | omega | (simp [maxLen,F1] <;> omega)
  refine hK1 _ _ _ ?_;exact NX (k':=n1) ((IntKind.wrap .i64 (v4+1),v5.set (v4).toNat (AaK .or .u32 (AaK .or .u32 (AaK .or .u32 (IntKind.wrap .u32 ((IntKind.wrap .u32 v6)*2 ^ (24))) (IntKind.wrap .u32 ((IntKind.wrap .u32 v7)*2 ^ (16)))) (IntKind.wrap .u32 ((IntKind.wrap .u32 v8)*2 ^ (8)))) (IntKind.wrap .u32 v9)))) hF (by simp [F1]) (by simp [F1])
 ·have h1_:=h1;try simp at h1_
  refine CF (by simp [h1,h1_] <;> omega) ?_;refine AW.exit ?_;try simp
  refine hK0 _ _ _ ?_;refine SW (A2 h1 h1_) [] [none] [1,19] [(8,AV.fn 111 [])] [] [] 3 ?_;refine AW.seq fun K4 hK4=>?_;refine SW (A2 h1 h1_) [] [none] [] [(9,Iz 16)] [] [] 3 ?_;refine AW.block ?_;refine AW.loopF (α:=(Int×(List Int))) (fun n (v10,v11)=>AaN.L2 k v0 v2 n v10 v11=some v3) (fun (v10,v11)=>[(0,.ptr 0 0),(2,.ptr 1 0),(6,.ptr 2 0),(8,AV.fn 111 []),(9,Iz v10)]) (fun (v10,v11)=>[(0,.cells (List.map (AV.int .u32) v0)),(1,.cells (List.map (AV.int .u32) v2)),(2,.cells (List.map (AV.int .u32) v11))]) 3 k ((16,v5)) hF (by simp [h1,h1_]) (by simp [h1,h1_]) (by simp) ?_;rintro (_|n2) ⟨v10,v11⟩ hF K5 hK5
  ·try dsimp only at hF
   rw [AaN.L2] at hF; cases hF
  try dsimp only at hF
  rw [AaN.L2] at hF;refine AW.seq fun K6 hK6=>?_;refine SW (A2 h1 h1_) [] N2 [] [(59,.bool (decide (v10<64)))] [] [] 3 ?_;rcases IFo hF with ⟨h17,hF⟩|⟨h17,hF⟩
  ·have h17_:=h17;try simp at h17_
   have F2:=A4 h1 h1_ h17 h17_;refine CT (by simp [F2] <;> omega) ?_;refine AW.skip (hK6 _ _ _ ?_);refine AW.seq fun K7 hK7=>?_;refine AW.block ?_;refine SR [] N10 fun _ _ g r=>?_;obtain ⟨⟨h18,h20,h19⟩,hF⟩:=AaP hF;have h19_:=Aa8 h19;obtain ⟨v12,h21,h22,h23,hF⟩:=Aai hF;have h23_:=AbA h23;try simp at h23_
   have h22_:=h22;try simp at h22_
   obtain ⟨⟨h24,h26,h25⟩,hF⟩:=AaP hF;have h25_:=Aa8 h25;obtain ⟨v13,h27,h28,h29,hF⟩:=Aai hF;have h29_:=AbA h29;try simp at h29_
   have h28_:=h28;try simp at h28_
   have F3:=A9 F2 h18 h19 h20 h19_ h21 h22 h23 (A9 h23_ h22_ h24 h25 h26 h25_ h27 h28 (A3 h29 h29_ h28_));refine TL F3 g r [] [(10,.int .u32 v12),(11,.int .u32 v13)] [] [] 3 ?_;refine RG [] N34 fun _ _ g r=>?_;obtain ⟨⟨h30,h32,h31⟩,hF⟩:=AaP hF;have h31_:=Aa8 h31;obtain ⟨v14,h33,h34,h35,hF⟩:=Aai hF;have h35_:=AbA h35;try simp at h35_
   have h34_:=h34;try simp at h34_
   have F4:=A9 F3 h30 h31 h32 h31_ h33 h34 h35 (A2 h35_ h34_);try simp [F4]
   and_intros
   try any_goals first | omega | (simp [maxLen,F4] <;> omega)
   obtain ⟨v15,h36,hF⟩:=AaG hF;refine AC (AbB k _ _ _ h36) (.cons (.same (by simp [F4])) (.cons (.same (by simp [F4])) .nil)) ?_;try simp [F4]
   and_intros
   try any_goals first | omega | (simp [maxLen,F4] <;> omega)
   obtain ⟨v16,h37,hF⟩:=AaG hF;refine AC (AbB k _ _ _ h37) (.cons (.same (by simp [F4])) (.cons (.same (by simp [F4])) .nil)) ?_;obtain ⟨⟨h38,h40,h39⟩,hF⟩:=AaP hF;have h39_:=Aa8 h39;obtain ⟨v17,h41,h42,h43,hF⟩:=Aai hF;have h43_:=AbA h43;try simp at h43_
   have h42_:=h42;try simp at h42_
   have F5:=A9 F4 h38 h39 h40 h39_ h41 h42 h43 (A2 h43_ h42_);try simp [F5]
   and_intros
   try any_goals first | omega | (simp [maxLen,F5] <;> omega)
   obtain ⟨v18,h44,hF⟩:=AaG hF;refine AC (AbB k _ _ _ h44) (.cons (.same (by simp [F5])) (.cons (.same (by simp [F5])) .nil)) ?_;try simp [F5]
   and_intros
   try any_goals first | omega | (simp [maxLen,F5] <;> omega)
   obtain ⟨v19,h45,hF⟩:=AaG hF;refine AC (AbB k _ _ _ h45) (.cons (.same (by simp [F5])) (.cons (.same (by simp [F5])) .nil)) ?_;obtain ⟨⟨h46,h48,h47⟩,hF⟩:=AaP hF;have h47_:=Aa8 h47;have F6:=A5 F5 h46 h47 h48 h47_;try simp [F6]
   and_intros <;> first | exact GK g | apply r | omega | (simp [maxLen,F6] <;> omega)
   refine hK7 _ _ _ ?_;refine WJ [(0,.ptr 0 0),(2,.ptr 1 0),(6,.ptr 2 0),(8,AV.fn 111 []),(9,Iz v10)] [(0,.cells (List.map (AV.int .u32) v0)),(1,.cells (List.map (AV.int .u32) v2)),(2,.cells (List.map (AV.int .u32) (v11.set (v10).toNat (IntKind.wrap .u32 (IntKind.wrap .u32 (IntKind.wrap .u32 (v14+AaK .xor .u32 (AaK .xor .u32 v15 v16) (Int.fdiv v12 (2 ^ (3))))+v17)+AaK .xor .u32 (AaK .xor .u32 v18 v19) (Int.fdiv v13 (2 ^ (10))))))))] 3 (by simp [F6]) ?_;refine RG [] N3 fun _ _ g r=>?_;try simp [F6]
   and_intros <;> first | exact GK g | apply r | omega | (simp [maxLen,F6] <;> omega)
   refine hK5 _ _ _ ?_;exact NX (k':=n2) ((IntKind.wrap .i64 (v10+1),v11.set (v10).toNat (IntKind.wrap .u32 (IntKind.wrap .u32 (IntKind.wrap .u32 (v14+AaK .xor .u32 (AaK .xor .u32 v15 v16) (Int.fdiv v12 (2 ^ (3))))+v17)+AaK .xor .u32 (AaK .xor .u32 v18 v19) (Int.fdiv v13 (2 ^ (10))))))) hF (by simp [F6]) (by simp [F6])
  ·have h17_:=h17;try simp at h17_
   have F7:=A4 h1 h1_ h17 h17_;refine CF (by simp [F7] <;> omega) ?_;refine AW.exit ?_;try simp
   refine hK4 _ _ _ ?_;refine SR [] N5 fun _ _ g r=>?_;obtain ⟨h49,hF⟩:=AaP hF;have h49_:=AfU h49 (by decide);obtain ⟨h50,hF⟩:=AaP hF;have F8:=A4 F7 h49 h49_ h50;refine TL F8 g r [9] [(12,.ptr 3 0)] [] [(3,.cells (List.map (AV.int .u32) v0))] 4 ?_;refine AW.seq fun K8 hK8=>?_;refine SW F8 [] [none] [] [(106,Iz 0)] [] [] 4 ?_;refine AW.block ?_;refine AW.loopF (α:=(Int×(List Int))) (fun n (v20,v21)=>AaN.L3 k v0 v2 v11 n v20 v21=some v3) (fun (v20,v21)=>[(0,.ptr 0 0),(2,.ptr 1 0),(6,.ptr 2 0),(8,AV.fn 111 []),(12,.ptr 3 0),(106,Iz v20)]) (fun (v20,v21)=>[(0,.cells (List.map (AV.int .u32) v0)),(1,.cells (List.map (AV.int .u32) v2)),(2,.cells (List.map (AV.int .u32) v11)),(3,.cells (List.map (AV.int .u32) v21))]) 4 k ((0,v0)) hF (by simp [F8]) (by simp [F8]) (by simp) ?_;rintro (_|n3) ⟨v20,v21⟩ hF K9 hK9
   ·try dsimp only at hF
    rw [AaN.L3] at hF; cases hF
   try dsimp only at hF
   rw [AaN.L3] at hF;refine SW F8 [] [none] [] [(107,.bool (decide (v20<64)))] [] [] 4 ?_;refine AW.seq fun K10 hK10=>?_;rcases IFo hF with ⟨h51,hF⟩|⟨h51,hF⟩
   ·have h51_:=h51;try simp at h51_
    have F9:=A3 F8 h51 h51_;refine CT (by simp [F9] <;> omega) ?_;refine AW.skip (hK10 _ _ _ ?_);refine AW.seq fun K11 hK11=>?_;refine AW.block ?_;refine SW F9 [] N2 [] [(13,Iz v20)] [] [] 4 ?_;refine SR [] N6 fun _ _ g r=>?_;obtain ⟨⟨h52,h54,h53⟩,hF⟩:=AaP hF;have h53_:=Aa8 h53;obtain ⟨v22,h55,h56,h57,hF⟩:=Aai hF;have h57_:=AbA h57;try simp at h57_
    have h56_:=h56;try simp at h56_
    have h57z:=Amc h57;obtain ⟨⟨h58,h60,h59⟩,hF⟩:=AaP hF;have h59_:=Aa8 h59;obtain ⟨v23,h61,h62,h63,hF⟩:=Aai hF;have h63_:=AbA h63;try simp at h63_
    have h62_:=h62;try simp at h62_
    have F10:=A9 F9 h52 h53 h54 h53_ h55 h56 h57 (A9 h57_ h56_ h57z h58 h59 h60 h59_ h61 (A4 h62 h63 h63_ h62_));refine TL F10 g r [] [(14,.int .u32 v22),(15,.int .u32 v23)] [] [] 4 ?_;refine SR [] N36 fun _ _ g r=>?_;obtain ⟨⟨h64,h66,h65⟩,hF⟩:=AaP hF;have h65_:=Aa8 h65;obtain ⟨v24,h67,h68,h69,hF⟩:=Aai hF;have h69_:=AbA h69;try simp at h69_
    have h68_:=h68;try simp at h68_
    have F11:=A9 F10 h64 h65 h66 h65_ h67 h68 h69 (A2 h69_ h68_);try simp [F11]
    and_intros
    try any_goals first | omega | (simp [maxLen,F11] <;> omega)
    obtain ⟨v25,h70,hF⟩:=AaG hF;refine AC (AbB k _ _ _ h70) (.cons (.same (by simp [F11])) (.cons (.same (by simp [F11])) .nil)) ?_;try simp [F11]
    and_intros
    try any_goals first | omega | (simp [maxLen,F11] <;> omega)
    obtain ⟨v26,h71,hF⟩:=AaG hF;refine AC (AbB k _ _ _ h71) (.cons (.same (by simp [F11])) (.cons (.same (by simp [F11])) .nil)) ?_;try simp [F11]
    and_intros
    try any_goals first | omega | (simp [maxLen,F11] <;> omega)
    obtain ⟨v27,h72,hF⟩:=AaG hF;refine AC (AbB k _ _ _ h72) (.cons (.same (by simp [F11])) (.cons (.same (by simp [F11])) .nil)) ?_;obtain ⟨⟨h73,h75,h74⟩,hF⟩:=AaP hF;have h74_:=Aa8 h74;obtain ⟨v28,h76,h77,h78,hF⟩:=Aai hF;have h78_:=AbA h78;try simp at h78_
    have h77_:=h77;try simp at h77_
    obtain ⟨⟨h79,h81,h80⟩,hF⟩:=AaP hF;have h80_:=Aa8 h80;obtain ⟨v29,h82,h83,h84,hF⟩:=Aai hF;have h84_:=AbA h84;try simp at h84_
    have h83_:=h83;try simp at h83_
    obtain ⟨⟨h85,h87,h86⟩,hF⟩:=AaP hF;have h86_:=Aa8 h86;obtain ⟨v30,h88,h89,h90,hF⟩:=Aai hF;have h90_:=AbA h90;try simp at h90_
    have h89_:=h89;try simp at h89_
    obtain ⟨⟨h91,h93,h92⟩,hF⟩:=AaP hF;have h92_:=Aa8 h92;obtain ⟨v31,h94,h95,h96,hF⟩:=Aai hF;have h96_:=AbA h96;try simp at h96_
    have h95_:=h95;try simp at h95_
    have F12:=A9 F11 h73 h74 h75 h74_ h76 h77 h78 (A9 h78_ h77_ h79 h80 h81 h80_ h82 h83 (A9 h84 h84_ h83_ h85 h86 h87 h86_ h88 (A9 h89 h90 h90_ h89_ h91 h92 h93 h92_ (A5 h94 h95 h96 h96_ h95_))));refine TL F12 g r [13,15] [(16,.int .u32 (IntKind.wrap .u32 (IntKind.wrap .u32 (IntKind.wrap .u32 (IntKind.wrap .u32 (v24+AaK .xor .u32 (AaK .xor .u32 v25 v26) v27)+AaK .xor .u32 (AaK .and .u32 v23 v28) (AaK .and .u32 (AaK .xor .u32 (IntKind.max .u32) v23) v29))+v30)+v31)))] [] [] 4 ?_;refine SR [] N28 fun _ _ g r=>?_;try simp [F12]
    and_intros
    try any_goals first | omega | (simp [maxLen,F12] <;> omega)
    obtain ⟨v32,h97,hF⟩:=AaG hF;refine AC (AbB k _ _ _ h97) (.cons (.same (by simp [F12])) (.cons (.same (by simp [F12])) .nil)) ?_;try simp [F12]
    and_intros
    try any_goals first | omega | (simp [maxLen,F12] <;> omega)
    obtain ⟨v33,h98,hF⟩:=AaG hF;refine AC (AbB k _ _ _ h98) (.cons (.same (by simp [F12])) (.cons (.same (by simp [F12])) .nil)) ?_;try simp [F12]
    and_intros
    try any_goals first | omega | (simp [maxLen,F12] <;> omega)
    obtain ⟨v34,h99,hF⟩:=AaG hF;refine AC (AbB k _ _ _ h99) (.cons (.same (by simp [F12])) (.cons (.same (by simp [F12])) .nil)) ?_;obtain ⟨⟨h100,h102,h101⟩,hF⟩:=AaP hF;have h101_:=Aa8 h101;obtain ⟨v35,h103,h104,h105,hF⟩:=Aai hF;have h105_:=AbA h105;try simp at h105_
    have h104_:=h104;try simp at h104_
    obtain ⟨⟨h106,h108,h107⟩,hF⟩:=AaP hF;have h107_:=Aa8 h107;obtain ⟨v36,h109,h110,h111,hF⟩:=Aai hF;have h111_:=AbA h111;try simp at h111_
    have h110_:=h110;try simp at h110_
    obtain ⟨⟨h112,h114,h113⟩,hF⟩:=AaP hF;have h113_:=Aa8 h113;obtain ⟨⟨h115,h117,h116⟩,hF⟩:=AaP hF;have h116_:=Aa8 h116;have F13:=A9 F12 h100 h101 h102 h101_ h103 h104 h105 (A9 h105_ h104_ h106 h107 h108 h107_ h109 h110 (A9 h111 h111_ h110_ h112 h113 h114 h113_ h115 (A3 h116 h117 h116_)));refine TL F13 g r [14] [(17,.int .u32 (IntKind.wrap .u32 (AaK .xor .u32 (AaK .xor .u32 v32 v33) v34+AaK .xor .u32 (AaK .xor .u32 (AaK .and .u32 v22 v35) (AaK .and .u32 v22 v36)) (AaK .and .u32 v35 v36))))] [] [] 4 ?_;refine RG [] N21 fun _ _ g r=>?_;obtain ⟨⟨h118,h120,h119⟩,hF⟩:=AaP hF;have h119_:=Aa8 h119;obtain ⟨⟨h121,h123,h122⟩,hF⟩:=AaP hF;have h122_:=Aa8 h122;obtain ⟨⟨h124,h126,h125⟩,hF⟩:=AaP hF;have h125_:=Aa8 h125;obtain ⟨⟨h127,h129,h128⟩,hF⟩:=AaP hF;have h128_:=Aa8 h128;obtain ⟨v37,h130,h131,h132,hF⟩:=Aai hF;have h132_:=AbA h132;try simp at h132_
    have h131_:=h131;try simp at h131_
    obtain ⟨⟨h133,h135,h134⟩,hF⟩:=AaP hF;have h134_:=Aa8 h134;obtain ⟨⟨h136,h138,h137⟩,hF⟩:=AaP hF;have h137_:=Aa8 h137;obtain ⟨⟨h139,h141,h140⟩,hF⟩:=AaP hF;have h140_:=Aa8 h140;obtain ⟨h142,hF⟩:=AaP hF;have F14:=A9 F13 h118 h119 h120 h119_ h121 h122 h123 (A9 h122_ h124 h125 h126 h125_ h127 h128 h129 (A9 h128_ h130 h131 h132 h132_ h131_ h133 h134 (A9 h135 h134_ h136 h137 h138 h137_ h139 h140 (A3 h141 h140_ h142))));try simp [F14]
    and_intros <;> first | exact GK g | apply r | omega | (simp [maxLen,F14] <;> omega)
    refine hK11 _ _ _ ?_;refine WJ [(0,.ptr 0 0),(2,.ptr 1 0),(6,.ptr 2 0),(8,AV.fn 111 []),(12,.ptr 3 0),(106,Iz v20)] [(0,.cells (List.map (AV.int .u32) v0)),(1,.cells (List.map (AV.int .u32) v2)),(2,.cells (List.map (AV.int .u32) v11)),(3,.cells (List.map (AV.int .u32) ([IntKind.wrap .u32 (IntKind.wrap .u32 (IntKind.wrap .u32 (IntKind.wrap .u32 (IntKind.wrap .u32 (v24+AaK .xor .u32 (AaK .xor .u32 v25 v26) v27)+AaK .xor .u32 (AaK .and .u32 v23 v28) (AaK .and .u32 (AaK .xor .u32 (IntKind.max .u32) v23) v29))+v30)+v31)+IntKind.wrap .u32 (AaK .xor .u32 (AaK .xor .u32 v32 v33) v34+AaK .xor .u32 (AaK .xor .u32 (AaK .and .u32 v22 v35) (AaK .and .u32 v22 v36)) (AaK .and .u32 v35 v36))),v22,v35,v36,IntKind.wrap .u32 (v37+IntKind.wrap .u32 (IntKind.wrap .u32 (IntKind.wrap .u32 (IntKind.wrap .u32 (v24+AaK .xor .u32 (AaK .xor .u32 v25 v26) v27)+AaK .xor .u32 (AaK .and .u32 v23 v28) (AaK .and .u32 (AaK .xor .u32 (IntKind.max .u32) v23) v29))+v30)+v31)),v23,v28,v29] : List Int)))] 4 (by simp [F14]) ?_;refine RG [] N2 fun _ _ g r=>?_;try simp [F14]
    and_intros <;> first | exact GK g | apply r | omega | (simp [maxLen,F14] <;> omega)
    refine hK9 _ _ _ ?_;exact NX (k':=n3) ((IntKind.wrap .i64 (v20+1),([IntKind.wrap .u32 (IntKind.wrap .u32 (IntKind.wrap .u32 (IntKind.wrap .u32 (IntKind.wrap .u32 (v24+AaK .xor .u32 (AaK .xor .u32 v25 v26) v27)+AaK .xor .u32 (AaK .and .u32 v23 v28) (AaK .and .u32 (AaK .xor .u32 (IntKind.max .u32) v23) v29))+v30)+v31)+IntKind.wrap .u32 (AaK .xor .u32 (AaK .xor .u32 v32 v33) v34+AaK .xor .u32 (AaK .xor .u32 (AaK .and .u32 v22 v35) (AaK .and .u32 v22 v36)) (AaK .and .u32 v35 v36))),v22,v35,v36,IntKind.wrap .u32 (v37+IntKind.wrap .u32 (IntKind.wrap .u32 (IntKind.wrap .u32 (IntKind.wrap .u32 (v24+AaK .xor .u32 (AaK .xor .u32 v25 v26) v27)+AaK .xor .u32 (AaK .and .u32 v23 v28) (AaK .and .u32 (AaK .xor .u32 (IntKind.max .u32) v23) v29))+v30)+v31)),v23,v28,v29] : List Int))) hF (by simp [F14]) (by simp [F14])
   ·have h51_:=h51;try simp at h51_
    have F15:=A3 F8 h51 h51_;refine CF (by simp [F15] <;> omega) ?_;refine AW.exit ?_;try simp
    refine hK8 _ _ _ ?_;refine SW F15 [] [none] [2,6,8,106] [(196,Iz 0)] [2] [] 4 ?_;refine AW.block ?_;refine AW.rnm (m:=2) h0 [(0,0),(1,1),(2,3)] [(0,.ptr 0 0),(12,.ptr 2 0),(196,Iz 0)] [(0,.cells (List.map (AV.int .u32) v0)),(1,.cells (List.map (AV.int .u32) v2)),(2,.cells (List.map (AV.int .u32) v21))] 3 (by decide) (by decide) (by decide) rfl (by simp [F15]) (by simp [F15]) ?_;refine AW.loopF (α:=(Int×(List Int))) (fun n (v38,v39)=>AaN.L4 k v21 n v38 v39=some v3) (fun (v38,v39)=>[(0,.ptr 0 0),(12,.ptr 2 0),(196,Iz v38)]) (fun (v38,v39)=>[(0,.cells (List.map (AV.int .u32) v39)),(1,.cells (List.map (AV.int .u32) v2)),(2,.cells (List.map (AV.int .u32) v21))]) 3 k ((0,v0)) hF (by simp [F15]) (by simp [F15]) (by simp) ?_;rintro (_|n4) ⟨v38,v39⟩ hF K12 hK12
    ·try dsimp only at hF
     rw [AaN.L4] at hF; cases hF
    try dsimp only at hF
    rw [AaN.L4] at hF;refine SW F15 [] [none] [] [(197,.bool (decide (v38<8)))] [] [] 3 ?_;refine AW.seq fun K13 hK13=>?_;rcases IFo hF with ⟨h143,hF⟩|⟨h143,hF⟩
    ·have h143_:=h143;try simp at h143_
     have F16:=A3 F15 h143 h143_;refine CT (by simp [F16] <;> omega) ?_;refine AW.skip (hK13 _ _ _ ?_);refine AW.seq fun K14 hK14=>?_;refine AW.block ?_;refine SW F16 [] N2 [] [(18,Iz v38)] [] [] 3 ?_;refine RG [] N12 fun _ _ g r=>?_;obtain ⟨⟨h144,h146,h145⟩,hF⟩:=AaP hF;have h145_:=Aa8 h145;obtain ⟨v40,h147,h148,h149,hF⟩:=Aai hF;have h149_:=AbA h149;try simp at h149_
     have h148_:=h148;try simp at h148_
     obtain ⟨⟨h150,h152,h151⟩,hF⟩:=AaP hF;have h151_:=Aa8 h151;obtain ⟨v41,h153,h154,h155,hF⟩:=Aai hF;have h155_:=AbA h155;try simp at h155_
     have h154_:=h154;try simp at h154_
     obtain ⟨⟨h156,h158,h157⟩,hF⟩:=AaP hF;have h157_:=Aa8 h157;have F17:=A9 F16 h144 h145 h146 h145_ h147 h148 h149 (A9 h149_ h148_ h150 h151 h152 h151_ h153 h154 (A7 h155 h155_ h154_ h156 h157 h158 h157_));try simp [F17]
     and_intros <;> first | exact GK g | apply r | omega | (simp [maxLen,F17] <;> omega)
     refine hK14 _ _ _ ?_;refine WJ [(0,.ptr 0 0),(12,.ptr 2 0),(196,Iz v38)] [(0,.cells (List.map (AV.int .u32) (v39.set (v38).toNat (IntKind.wrap .u32 (v40+v41))))),(1,.cells (List.map (AV.int .u32) v2)),(2,.cells (List.map (AV.int .u32) v21))] 3 (by simp [F17]) ?_;refine RG [] N2 fun _ _ g r=>?_;try simp [F17]
     and_intros <;> first | exact GK g | apply r | omega | (simp [maxLen,F17] <;> omega)
     refine hK12 _ _ _ ?_;exact NX (k':=n4) ((IntKind.wrap .i64 (v38+1),v39.set (v38).toNat (IntKind.wrap .u32 (v40+v41)))) hF (by simp [F17]) (by simp [F17])
    ·have h143_:=h143;try simp at h143_
     have F18:=A3 F15 h143 h143_;refine CF (by simp [F18] <;> omega) ?_;refine AW.exit ?_;try simp
     cases hF;refine (hQ _ _ _ ?_ (AaE ?_)).2
     ·simp [Try.f77,F18]
     ·simp [F18]
theorem AjV (k : Nat) (v0 : (List Int)) (v1 : ByteArray) (hF : Aar k v0=some v1) :
 AbP Try.prog 44 [AV.lst false false (List.map (AV.int .u8) v0)] [] (AV.str v1) []:=by
 unfold Aar at hF;refine EN Try.func44 ?_;intro c0 w0 Q h0 hQ
 refine WJ [(0,Lb v0)] [] 0 (by simp) ?_;refine SW trivial [] [none] [] [] [] [] 0 ?_;refine SQ [12] N5 fun _ _ g r=>?_;obtain ⟨h1,hF⟩:=AaP hF;have h1_:=h1;try simp at h1_
 obtain ⟨h2,hF⟩:=AaP hF;have h2_:=h2;try simp at h2_
 try simp [h1,h2]
 and_intros <;> first | exact GK g | apply r | omega | (simp [h1,h2,maxLen] <;> omega)
 refine WK [(0,Lb v0),(3,.slc 1 0 1 ((v0++([128] : List Int)).length) false)] [(1,.grow (List.map (AV.int .u8) (v0++([128] : List Int))))] 2 (by simp [h1,h2] <;> omega) (by simp [h1,h2]) ?_;refine AW.seq fun K0 hK0=>?_;refine AW.block ?_;refine RM h0 [(0,1)] [(0,Lb v0),(3,.slc 0 0 1 ((v0++([128] : List Int)).length) false)] [(0,.grow (List.map (AV.int .u8) (v0++([128] : List Int))))] 1 (by simp [h1,h2]) (by simp [h1,h2]) ?_;refine AW.loopF (α:=(List Int)) (fun n v2=>Aar.L1 k v0 n v2=some v1) (fun v2=>[(0,Lb v0),(3,Sc 0 v2)]) (fun v2=>[(0,.grow (List.map (AV.int .u8) v2))]) 1 k (v0++([128] : List Int)) hF (by simp [h1,h2]) (by simp [h1,h2]) (by simp) ?_;rintro (_|n1) v2 hF K1 hK1
 ·try dsimp only at hF
  rw [Aar.L1] at hF; cases hF
 try dsimp only at hF
 rw [Aar.L1] at hF;refine AW.seq fun K2 hK2=>?_;refine SW (A2 h1 h2) [] N4 [] [(18,.bool ((Int.tmod (v2.length : Int) 64) !=56))] [] [] 1 ?_;rcases IFo hF with ⟨h3,hF⟩|⟨h3,hF⟩
 ·have h3_:=Aba h3;have h3__:=Abd h3;refine CT (by simp [h1,h2,h3,h3_,h3__] <;> omega) ?_;refine AW.skip (hK2 _ _ _ ?_);refine AW.block ?_;refine RG [] N4 fun _ _ g r=>?_;obtain ⟨h4,hF⟩:=AaP hF;have h4_:=h4;try simp at h4_
  have F1:=A6 h1 h2 h3 h3_ h3__ h4;try simp [F1]
  and_intros <;> first | exact GK g | apply r | omega | (simp [maxLen,F1] <;> omega)
  refine hK1 _ _ _ ?_;refine RN h0 [(0,1)] [(0,Lb v0),(3,.slc 0 0 1 ((v2++([0] : List Int)).length) false)] [(0,.grow (List.map (AV.int .u8) (v2++([0] : List Int))))] 1 (by simp [F1] <;> omega) (by simp [F1]) ?_;exact NX (k':=n1) (v2++([0] : List Int)) hF (by simp [F1]) (by simp [F1])
 ·have h3q : (Int.tmod (v2.length : Int) 64)=56:=Classical.not_not.1 h3;have h3_:=Abf h3q;have h3__:=Abe h3q;have F2:=A5 h1 h2 h3_ h3__ h3q;refine CF (by simp [F2] <;> omega) ?_;refine AW.exit ?_;try simp
  refine hK0 _ _ _ ?_;refine SW F2 [] N5 [0] [(4,.int .u64 (IntKind.wrap .u64 (IntKind.wrap .u64 (v0.length : Int)*8)))] [] [] 1 ?_;refine AW.seq fun K3 hK3=>?_;refine SW F2 [] [none] [] [(5,Iz 56)] [] [] 1 ?_;refine AW.block ?_;refine AW.loopF (α:=(Int×(List Int))) (fun n (v3,v4)=>Aar.L2 k v0 n v3 v4=some v1) (fun (v3,v4)=>[(3,Sc 0 v4),(4,.int .u64 (IntKind.wrap .u64 (IntKind.wrap .u64 (v0.length : Int)*8))),(5,Iz v3)]) (fun (v3,v4)=>[(0,.grow (List.map (AV.int .u8) v4))]) 1 k ((56,v2)) hF (by simp [F2]) (by simp [F2]) (by simp) ?_;rintro (_|n2) ⟨v3,v4⟩ hF K4 hK4
  ·try dsimp only at hF
   rw [Aar.L2] at hF; cases hF
  try dsimp only at hF
  rw [Aar.L2] at hF;refine AW.seq fun K5 hK5=>?_;refine SW F2 [] N2 [] [(27,.bool (decide (0≤v3)))] [] [] 1 ?_;rcases IFo hF with ⟨h5,hF⟩|⟨h5,hF⟩
  ·have h5_:=h5;try simp at h5_
   have F3:=A3 F2 h5 h5_;refine CT (by simp [F3] <;> omega) ?_;refine AW.skip (hK5 _ _ _ ?_);refine AW.seq fun K6 hK6=>?_;refine AW.block ?_;refine RG [] N9 fun _ _ g r=>?_;obtain ⟨h6,hF⟩:=AaP hF;obtain ⟨h7,hF⟩:=AaP hF;have h7_:=h7;try simp at h7_
   have F4:=A3 F3 h6 h7;try simp [F4]
   and_intros <;> first | exact GK g | apply r | omega | (simp [maxLen,F4] <;> omega)
   refine hK6 _ _ _ ?_;refine WK [(3,.slc 1 0 1 ((v4++([IntKind.wrap .u8 (Int.fdiv (IntKind.wrap .u64 (IntKind.wrap .u64 (v0.length : Int)*8)) (2 ^ (min ((IntKind.wrap .u64 v3).toNat) 64)))] : List Int)).length) false),(4,.int .u64 (IntKind.wrap .u64 (IntKind.wrap .u64 (v0.length : Int)*8))),(5,Iz v3)] [(1,.grow (List.map (AV.int .u8) (v4++([IntKind.wrap .u8 (Int.fdiv (IntKind.wrap .u64 (IntKind.wrap .u64 (v0.length : Int)*8)) (2 ^ (min ((IntKind.wrap .u64 v3).toNat) 64)))] : List Int))))] 2 (by simp [F4] <;> omega) (by simp [F4]) ?_;refine RG [] N3 fun _ _ g r=>?_;try simp [F4]
   and_intros <;> first | exact GK g | apply r | omega | (simp [maxLen,F4] <;> omega)
   refine hK4 _ _ _ ?_;refine RN h0 [(0,1)] [(3,.slc 0 0 1 ((v4++([IntKind.wrap .u8 (Int.fdiv (IntKind.wrap .u64 (IntKind.wrap .u64 (v0.length : Int)*8)) (2 ^ (min ((IntKind.wrap .u64 v3).toNat) 64)))] : List Int)).length) false),(4,.int .u64 (IntKind.wrap .u64 (IntKind.wrap .u64 (v0.length : Int)*8))),(5,Iz (IntKind.wrap .i64 (v3-8)))] [(0,.grow (List.map (AV.int .u8) (v4++([IntKind.wrap .u8 (Int.fdiv (IntKind.wrap .u64 (IntKind.wrap .u64 (v0.length : Int)*8)) (2 ^ (min ((IntKind.wrap .u64 v3).toNat) 64)))] : List Int))))] 1 (by simp [F4] <;> omega) (by simp [F4]) ?_;exact NX (k':=n2) ((IntKind.wrap .i64 (v3-8),v4++([IntKind.wrap .u8 (Int.fdiv (IntKind.wrap .u64 (IntKind.wrap .u64 (v0.length : Int)*8)) (2 ^ (min ((IntKind.wrap .u64 v3).toNat) 64)))] : List Int))) hF (by simp [F4]) (by simp [F4])
  ·have h5_:=h5;try simp at h5_
   have F5:=A3 F2 h5 h5_;refine CF (by simp [F5] <;> omega) ?_;refine AW.exit ?_;try simp
   refine hK3 _ _ _ ?_;refine WJ [(3,Sc 0 v4)] [(0,.grow (List.map (AV.int .u8) v4))] 1 (by simp [F5]) ?_;refine AW.frz 0 (o := .grow (List.map (AV.int .u8) v4)) (by simp [F5]) rfl [(3,Lb v4)] [] ⟨(.l (by simp) (by simp) (by simp) (by simp)),trivial⟩ trivial ?_;refine WJ [(3,Lb v4)] [] 1 (by simp [F5]) ?_;refine SR [] N6 fun _ _ g r=>?_;try simp [F5]
   and_intros
   try any_goals first | omega | (simp [maxLen,F5] <;> omega)
   obtain ⟨v5,h8,hF⟩:=AaG hF;refine AC (AhT k _ h8) .nil ?_;obtain ⟨h9,hF⟩:=AaP hF;obtain ⟨h10,hF⟩:=AaP hF;have F6:=A3 F5 h9 h10;refine TL F6 g r [] [(6,.ptr 1 0),(7,.ptr 2 0)] [] [(1,.cells (List.map (AV.int .u32) ([1779033703,3144134277,1013904242,2773480762,1359893119,2600822924,528734635,1541459225] : List Int))),(2,.cells (List.map (AV.int .u32) v5))] 3 ?_;refine AW.seq fun K7 hK7=>?_;refine AW.block ?_;refine RM h0 [(0,1),(1,2)] [(3,Lb v4),(6,.ptr 0 0),(7,.ptr 1 0)] [(0,.cells (List.map (AV.int .u32) ([1779033703,3144134277,1013904242,2773480762,1359893119,2600822924,528734635,1541459225] : List Int))),(1,.cells (List.map (AV.int .u32) v5))] 2 (by simp [F6]) (by simp [F6]) ?_;refine AW.loopF (α:=((List Int)×(List Int))) (fun n (v6,v7)=>Aar.L3 k v5 n v6 v7=some v1) (fun (v6,v7)=>[(3,Lb v6),(6,.ptr 0 0),(7,.ptr 1 0)]) (fun (v6,v7)=>[(0,.cells (List.map (AV.int .u32) v7)),(1,.cells (List.map (AV.int .u32) v5))]) 2 k ((v4,([1779033703,3144134277,1013904242,2773480762,1359893119,2600822924,528734635,1541459225] : List Int))) hF (by simp [F6]) (by simp [F6]) (by simp) ?_;rintro (_|n3) ⟨v6,v7⟩ hF K8 hK8
   ·try dsimp only at hF
    rw [Aar.L3] at hF; cases hF
   try dsimp only at hF
   rw [Aar.L3] at hF;refine AW.seq fun K9 hK9=>?_;refine SW F6 [] N3 [] [(42,.bool (decide (0<(v6.length : Int))))] [] [] 2 ?_;rcases IFo hF with ⟨h11,hF⟩|⟨h11,hF⟩
   ·have h11_:=h11;try simp at h11_
    have F7:=A3 F6 h11 h11_;refine CT (by simp [F7] <;> omega) ?_;refine AW.skip (hK9 _ _ _ ?_);refine AW.seq fun K10 hK10=>?_;refine AW.block ?_;refine RG [] N3 fun _ _ g r=>?_;obtain ⟨h12,hF⟩:=AaP hF;have h12_:=h12;try simp at h12_
    have F8:=A3 F7 h12 h12_;try simp [F8]
    and_intros
    try any_goals first | omega | (simp [maxLen,F8] <;> omega)
    obtain ⟨v8,h13,hF⟩:=AaG hF;refine AaO (Afq k _ _ _ _ h13) (by simp) [0,1] [] [0] rfl (.cons (.same (by simp [F8])) (.cons (.same (by simp [F8])) (.cons (.same (by simp [F8])) .nil))) (by simp [F8]) (by decide) (by simp) (by simp) (.inl rfl) (by simp) (by simp) ?_;try simp [F8]
    and_intros <;> first | exact GK g | apply r | omega | (simp [maxLen,F8] <;> omega)
    refine hK10 _ _ _ ?_;refine WJ [(3,Lb v6),(6,.ptr 0 0),(7,.ptr 1 0)] [(0,.cells (List.map (AV.int .u32) v8)),(1,.cells (List.map (AV.int .u32) v5))] 2 (by simp [F8]) ?_;refine RG [] N3 fun _ _ g r=>?_;obtain ⟨h14,hF⟩:=AaP hF;have h14_:=h14;try simp at h14_
    have F9:=A3 F8 h14 h14_;try simp [F9]
    and_intros <;> first | exact GK g | apply r | omega | (simp [maxLen,F9] <;> omega)
    refine hK8 _ _ _ ?_;exact NX (k':=n3) ((v6.drop (64 : Int).toNat,v8)) hF (by simp [F9]) (by simp [F9])
   ·have h11_:=h11;try simp at h11_
    have F10:=A3 F6 h11 h11_;refine CF (by simp [F10] <;> omega) ?_;refine AW.exit ?_;try simp
    refine hK7 _ _ _ ?_;refine SW F10 [] [none] [3,7] [(8,.lst true true (List.map (AV.int .u8) ([] : List Int)))] [1] [] 2 ?_;refine AW.seq fun K11 hK11=>?_;refine SR [] N2 fun _ _ g r=>?_;obtain ⟨h15,hF⟩:=AaP hF;have h15_:=AfU h15 (by decide);have F11:=A3 F10 h15 h15_;refine TL F11 g r [6] [(48,.agg (List.map (AV.int .u32) v7)),(49,Iz 0)] [0] [] 2 ?_;refine AW.block ?_;refine AW.own' 8 1 true (by simp [F11]) (by decide) ?_;refine RM h0 [(0,2)] [(8,.slc 0 0 1 (([] : List Int).length) false),(48,.agg (List.map (AV.int .u32) v7)),(49,Iz 0)] [(0,.grow (List.map (AV.int .u8) ([] : List Int)))] 1 (by simp [F11]) (by simp [F11]) ?_;refine AW.loopF (α:=(Int×(List Int))) (fun n (v9,v10)=>Aar.L4 k v7 n v9 v10=some v1) (fun (v9,v10)=>[(8,Sc 0 v10),(48,.agg (List.map (AV.int .u32) v7)),(49,Iz v9)]) (fun (v9,v10)=>[(0,.grow (List.map (AV.int .u8) v10))]) 1 k ((0,([] : List Int))) hF (by simp [F11]) (by simp [F11]) (by simp) ?_;rintro (_|n4) ⟨v9,v10⟩ hF K12 hK12
    ·try dsimp only at hF
     rw [Aar.L4] at hF; cases hF
    try dsimp only at hF
    rw [Aar.L4] at hF;refine SW F11 [] [none] [] [(50,.bool (decide (v9<8)))] [] [] 1 ?_;refine AW.seq fun K13 hK13=>?_;rcases IFo hF with ⟨h16,hF⟩|⟨h16,hF⟩
    ·have h16_:=h16;try simp at h16_
     have F12:=A3 F11 h16 h16_;refine CT (by simp [F12] <;> omega) ?_;refine AW.skip (hK13 _ _ _ ?_);refine AW.seq fun K14 hK14=>?_;refine AW.block ?_;refine SR [] N2 fun _ _ g r=>?_;obtain ⟨h17,hF⟩:=AaP hF;obtain ⟨v11,h18,h19,h20,hF⟩:=Aai hF;have h20_:=AbA h20;try simp at h20_
     have h19_:=h19;try simp at h19_
     have F13:=A7 F12 h17 h18 h19 h20 h20_ h19_;refine TL F13 g r [] [(10,.int .u32 v11)] [] [] 1 ?_;refine RG [] N15 fun _ _ g r=>?_;obtain ⟨h21,hF⟩:=AaP hF;have h21_:=h21;try simp at h21_
     have F14:=A2 F13 h21;try simp [F14]
     and_intros <;> first | exact GK g | apply r | omega | (simp [maxLen,F14] <;> omega)
     refine hK14 _ _ _ ?_;refine WK [(8,.slc 1 0 1 ((v10++([IntKind.wrap .u8 (Int.fdiv v11 (2 ^ (24))),IntKind.wrap .u8 (Int.fdiv v11 (2 ^ (16))),IntKind.wrap .u8 (Int.fdiv v11 (2 ^ (8))),IntKind.wrap .u8 v11] : List Int)).length) false),(48,.agg (List.map (AV.int .u32) v7)),(49,Iz v9)] [(1,.grow (List.map (AV.int .u8) (v10++([IntKind.wrap .u8 (Int.fdiv v11 (2 ^ (24))),IntKind.wrap .u8 (Int.fdiv v11 (2 ^ (16))),IntKind.wrap .u8 (Int.fdiv v11 (2 ^ (8))),IntKind.wrap .u8 v11] : List Int))))] 2 (by simp [F14] <;> omega) (by simp [F14]) ?_;refine RG [] N2 fun _ _ g r=>?_;try simp [F14]
     and_intros <;> first | exact GK g | apply r | omega | (simp [maxLen,F14] <;> omega)
     refine hK12 _ _ _ ?_;refine RN h0 [(0,1)] [(8,.slc 0 0 1 ((v10++([IntKind.wrap .u8 (Int.fdiv v11 (2 ^ (24))),IntKind.wrap .u8 (Int.fdiv v11 (2 ^ (16))),IntKind.wrap .u8 (Int.fdiv v11 (2 ^ (8))),IntKind.wrap .u8 v11] : List Int)).length) false),(48,.agg (List.map (AV.int .u32) v7)),(49,Iz (IntKind.wrap .i64 (v9+1)))] [(0,.grow (List.map (AV.int .u8) (v10++([IntKind.wrap .u8 (Int.fdiv v11 (2 ^ (24))),IntKind.wrap .u8 (Int.fdiv v11 (2 ^ (16))),IntKind.wrap .u8 (Int.fdiv v11 (2 ^ (8))),IntKind.wrap .u8 v11] : List Int))))] 1 (by simp [F14] <;> omega) (by simp [F14]) ?_;exact NX (k':=n4) ((IntKind.wrap .i64 (v9+1),v10++([IntKind.wrap .u8 (Int.fdiv v11 (2 ^ (24))),IntKind.wrap .u8 (Int.fdiv v11 (2 ^ (16))),IntKind.wrap .u8 (Int.fdiv v11 (2 ^ (8))),IntKind.wrap .u8 v11] : List Int))) hF (by simp [F14]) (by simp [F14])
    ·have h16_:=h16;try simp at h16_
     have F15:=A3 F11 h16 h16_;refine CF (by simp [F15] <;> omega) ?_;refine AW.exit ?_;try simp
     refine hK11 _ _ _ ?_;refine WJ [(8,Sc 0 v10)] [(0,.grow (List.map (AV.int .u8) v10))] 1 (by simp [F15]) ?_;refine AW.frz 0 (o := .grow (List.map (AV.int .u8) v10)) (by simp [F15]) rfl [(8,Lb v10)] [] ⟨(.l (by simp) (by simp) (by simp) (by simp)),trivial⟩ trivial ?_;refine WJ [(8,Lb v10)] [] 1 (by simp [F15]) ?_;refine SW F15 [] N3 [8] [(2,.str (ofI v10))] [] [] 1 ?_;cases hF;exact AW.ret (hQ _ _ _ (by simp [Try.f44,F15]) (AaE (by simp [F15]))).1
theorem Acz (k : Nat) (v0 v1 : Int) (v2 : ByteArray) (v3 v4 v5 v6 v7 : Int) (v8 : (List Int)) (v9 : (List AaD)) (v10 : ByteArray) (v11 : Int) (v12 v13 : ByteArray) (hF : Aby k v0 v1 v2 v3 v4 v5 v6 v7 v8 v9 v10 v11 v12=some v13) :
 AbP Try.prog 50 [AV.agg [AV.int .i64 v0,AV.int .i64 v1,AV.str v2,AV.int .i64 v3,AV.int .i64 v4,AV.int .i64 v5,AV.int .i64 v6,AV.int .i64 v7,AV.lst false false (List.map (AV.int .i64) v8),Q0 v9,AV.str v10,AV.int .i64 v11,AV.str v12]] [] (AV.str v13) []:=by
 unfold Aby at hF;refine EN Try.func50 ?_;intro c0 w0 Q h0 hQ
 refine WJ [(0,.agg [Iz v0,Iz v1,AV.str v2,Iz v3,Iz v4,Iz v5,Iz v6,Iz v7,Lz v8,Q0 v9,AV.str v10,Iz v11,AV.str v12])] [] 0 (by simp) ?_;refine SW trivial [] N2 [0] [(1,.ptr 0 0)] [] [(0,.cells [Iz v0,Iz v1,AV.str v2,Iz v3,Iz v4,Iz v5,Iz v6,Iz v7,Lz v8,Q0 v9,AV.str v10,Iz v11,AV.str v12])] 1 ?_;refine SR [] N4 fun _ _ g r=>?_;try simp
 and_intros
 try any_goals first | omega | (simp [maxLen] <;> omega)
 obtain ⟨v14,h1,hF⟩:=AaG hF;refine AC (Adc k _ _ _ _ _ _ _ _ _ _ _ _ _ _ h1) (.cons (.same (by simp)) .nil) ?_;try simp
 and_intros
 try any_goals first | omega | (simp [maxLen] <;> omega)
 obtain ⟨v15,h2,hF⟩:=AaG hF;refine AaO (AjV k _ _ h2) (by simp) [] [1] [] rfl (.cons (Coe.l (o := .grow (List.map (AV.int .u8) v14)) (by simp) rfl (by simp) (by simp [AcA]) (by simp) (by simp)) .nil) (by simp) (by decide) (by simp) (by simp) (.inr ⟨by simp,by simp⟩) (by simp) (by simp) ?_;refine TL trivial g r [1] [(2,.str v15)] [0] [] 2 ?_;cases hF;refine AW.ret (hQ _ _ _ ?_ (AaE ?_)).1
 ·simp [Try.f50]
 ·simp
abbrev AfA  : Aan := .cells [Iz 0,Iz 0,AV.str (ByteArray.mk #[]),Iz 0,Iz 0,Iz 0,Iz 0,Iz 0,AV.lst true true (List.map (AV.int .i64) ([] : List Int)),AV.lst true true (List.map AaD.av ([] : List AaD)),AV.str (ByteArray.mk #[]),Iz 0,AV.str (ByteArray.mk #[])]
theorem Ae6 (k : Nat) (v0 v1 : Int) (v2 : ByteArray) (v3 v4 v5 v6 v7 : Int) (v8 : (List Int)) (v9 : (List AaD)) (v10 : ByteArray) (v11 : Int) (v12 : ByteArray) (v13 : AaI) (hF : Acw k v0 v1 v2 v3 v4 v5 v6 v7 v8 v9 v10 v11 v12=some v13) :
 AbP Try.prog 47 [AV.agg [AV.int .i64 v0,AV.int .i64 v1,AV.str v2,AV.int .i64 v3,AV.int .i64 v4,AV.int .i64 v5,AV.int .i64 v6,AV.int .i64 v7,AV.lst false false (List.map (AV.int .i64) v8),Q0 v9,AV.str v10,AV.int .i64 v11,AV.str v12]] [] (AV.agg [AV.int .i64 v13.Author,AV.int .i64 v13.Number,AV.str v13.Prev,AV.int .i64 v13.Time,AV.int .i64 v13.Kind,AV.int .i64 v13.A,AV.int .i64 v13.B,AV.int .i64 v13.C,AV.lst false false (List.map (AV.int .i64) v13.Lst),Q0 v13.Pins,AV.str v13.Body,AV.int .i64 v13.Seal_Key,AV.str v13.Seal_Digest]) []:=by
 unfold Acw at hF;refine EN Try.func47 ?_;intro c0 w0 Q h0 hQ
 refine WJ [(0,.agg [Iz v0,Iz v1,AV.str v2,Iz v3,Iz v4,Iz v5,Iz v6,Iz v7,Lz v8,Q0 v9,AV.str v10,Iz v11,AV.str v12])] [] 0 (by simp) ?_;refine SW trivial [] N2 [0] [(1,.ptr 0 0),(2,.ptr 1 0)] [] [(0,.cells [Iz v0,Iz v1,AV.str v2,Iz v3,Iz v4,Iz v5,Iz v6,Iz v7,Lz v8,Q0 v9,AV.str v10,Iz v11,AV.str v12]),(1,AfA )] 2 ?_;refine SR [] N10 fun _ _ g r=>?_;try simp
 and_intros
 try any_goals first | omega | (simp [maxLen] <;> omega)
 obtain ⟨v14,h1,hF⟩:=AaG hF;refine AC (AfD k _ _ h1) (.cons (.same (by simp)) .nil) ?_;try simp
 and_intros
 try any_goals first | omega | (simp [maxLen] <;> omega)
 obtain ⟨v15,h2,hF⟩:=AaG hF;refine AC (Adr k _ _ h2) (.cons (.same (by simp)) .nil) ?_;refine TL trivial g r [] [] [0] [(0,.cells [Iz v0,Iz v1,AV.str v2,Iz v3,Iz v4,Iz v5,Iz v6,Iz v7,Sc 2 v14,AV.slc 3 0 3 v15.length false,AV.str v10,Iz v11,AV.str v12]),(2,Gi v14),(3,.grow (AaM (List.map AaD.av v15)))] 4 ?_;refine AW.frz 2 (o:=Gi v14) (by simp) rfl [] [(0,.cells [Iz v0,Iz v1,AV.str v2,Iz v3,Iz v4,Iz v5,Iz v6,Iz v7,Lz v14,AV.slc 3 0 3 v15.length false,AV.str v10,Iz v11,AV.str v12])] trivial ⟨⟨by simp,Aan.cells [Iz v0,Iz v1,AV.str v2,Iz v3,Iz v4,Iz v5,Iz v6,Iz v7,Sc 2 v14,AV.slc 3 0 3 v15.length false,AV.str v10,Iz v11,AV.str v12],by simp,(.mk (.cons (.same _) (.cons (.same _) (.cons (.same _) (.cons (.same _) (.cons (.same _) (.cons (.same _) (.cons (.same _) (.cons (.same _) (.cons (.l (by simp) (by simp) (by simp) (by simp)) (.cons (.same _) (.cons (.same _) (.cons (.same _) (.cons (.same _) .nil))))))))))))))⟩,trivial⟩ ?_;refine AW.frz 3 (o := .grow (AaM (List.map AaD.av v15))) (by simp) rfl [] [(0,.cells [Iz v0,Iz v1,AV.str v2,Iz v3,Iz v4,Iz v5,Iz v6,Iz v7,Lz v14,Q0 v15,AV.str v10,Iz v11,AV.str v12])] trivial ⟨⟨by simp,Aan.cells [Iz v0,Iz v1,AV.str v2,Iz v3,Iz v4,Iz v5,Iz v6,Iz v7,Lz v14,AV.slc 3 0 3 v15.length false,AV.str v10,Iz v11,AV.str v12],by simp,(.mk (.cons (.same _) (.cons (.same _) (.cons (.same _) (.cons (.same _) (.cons (.same _) (.cons (.same _) (.cons (.same _) (.cons (.same _) (.cons (.same _) (.cons (.l (by simp) (by simp) (by simp) (by simp)) (.cons (.same _) (.cons (.same _) (.cons (.same _) .nil))))))))))))))⟩,trivial⟩ ?_;refine WJ [(1,.ptr 0 0),(2,.ptr 1 0)] [(0,.cells [Iz v0,Iz v1,AV.str v2,Iz v3,Iz v4,Iz v5,Iz v6,Iz v7,Lz v14,Q0 v15,AV.str v10,Iz v11,AV.str v12]),(1,AfA )] 4 (by simp) ?_;obtain ⟨v16,h3,hF⟩:=AaG hF;refine CL trivial [] N7 (Acz k _ _ _ _ _ _ _ _ _ _ _ _ _ _ h3) [] [] [0] [(0,.cells [Iz v0,Iz v1,AV.str v2,Iz v3,Iz v4,Iz v5,Iz v6,Iz v7,Lz v14,Q0 v15,AV.str v10,Iz v0,AV.str v16])] 4 ?_;refine SQ [] N2 fun _ _ g r=>?_;try simp
 and_intros <;> first | exact GK g | apply r | omega | (simp [maxLen] <;> omega)
 refine RM h0 [(0,1)] [(2,.ptr 0 0)] [(0,.cells [Iz v0,Iz v1,AV.str v2,Iz v3,Iz v4,Iz v5,Iz v6,Iz v7,Lz v14,Q0 v15,AV.str v10,Iz v0,AV.str v16])] 1 (by simp) (by simp) ?_;cases hF;refine AW.ret (hQ _ _ _ ?_ (AaE ?_)).1
 ·simp [Try.f47]
 ·simp
end Go.TF
