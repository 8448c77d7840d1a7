import Derived.Test.YtomgdcnbceiggaaSmtWal29
set_option linter.unusedVariables false
set_option linter.unusedSimpArgs false
set_option maxRecDepth 100000
set_option maxHeartbeats 4000000
namespace Go.TF
open Go Go.Abs Go.Proofs Go.Proofs.YtomgdcnbceiggaaSmT
abbrev AdT (v0 v1 : Int) (v2 : ByteArray) (v3 v4 v5 v6 v7 : Int) (v8 : (List Int)) (v9 : (List AaD)) (v10 : ByteArray) (v11 : Int) (v12 : ByteArray) : Aan := .cells [Iz v0,Iz v1,AV.str v2,Iz v3,Iz v4,Iz v5,Iz v6,Iz v7,Lz v8,Q0 v9,AV.str v10,Iz v11,AV.str v12]
abbrev Ae2  : Aan := .cells [Iz 0,Iz 0,AV.str (ByteArray.mk #[]),Iz 0,Iz 0,Iz 0,Iz 0,Iz 0,AV.lst true true (List.map (AV.int .i64) ([] : List Int)),AV.lst true true (List.map AaD.av ([] : List AaD)),AV.str (ByteArray.mk #[]),Iz 0,AV.str (ByteArray.mk #[])]
theorem AjS (k : Nat) (v0 v1 : Int) (v2 : ByteArray) (v3 v4 v5 v6 v7 : Int) (v8 : (List Int)) (v9 : (List AaD)) (v10 : ByteArray) (v11 : Int) (v12 : ByteArray) (v13 : AaI) (hF : Afh k v0 v1 v2 v3 v4 v5 v6 v7 v8 v9 v10 v11 v12=some v13) :
 AbP Try.prog 27 [AV.agg [AV.int .i64 v0,AV.int .i64 v1,AV.str v2,AV.int .i64 v3,AV.int .i64 v4,AV.int .i64 v5,AV.int .i64 v6,AV.int .i64 v7,AV.lst false false (List.map (AV.int .i64) v8),Q0 v9,AV.str v10,AV.int .i64 v11,AV.str v12]] [] (AV.agg [AV.int .i64 v13.Author,AV.int .i64 v13.Number,AV.str v13.Prev,AV.int .i64 v13.Time,AV.int .i64 v13.Kind,AV.int .i64 v13.A,AV.int .i64 v13.B,AV.int .i64 v13.C,AV.lst false false (List.map (AV.int .i64) v13.Lst),Q0 v13.Pins,AV.str v13.Body,AV.int .i64 v13.Seal_Key,AV.str v13.Seal_Digest]) []:=by
 unfold Afh at hF;refine EN Try.func27 ?_;intro c0 w0 Q h0 hQ
 refine WJ [(0,.agg [Iz v0,Iz v1,AV.str v2,Iz v3,Iz v4,Iz v5,Iz v6,Iz v7,Lz v8,Q0 v9,AV.str v10,Iz v11,AV.str v12])] [] 0 (by simp) ?_;refine SW trivial [] N2 [0] [(1,.ptr 0 0),(2,.ptr 1 0)] [] [(0,AdT v0 v1 v2 v3 v4 v5 v6 v7 v8 v9 v10 v11 v12),(1,Ae2 )] 2 ?_;refine SR [5] N5 fun _ _ g r=>?_;obtain ⟨h1,hF⟩:=AaP hF;have h1_:=h1;try simp at h1_
 refine TL h1 g r [] [] [0] [(0,.cells [Iz v0,Iz v1,AV.str v2,Iz v3,Iz v4,Iz v5,Iz v6,Iz v7,Sc 2 v8,Q0 v9,AV.str v10,Iz v11,AV.str v12]),(2,Gi v8)] 3 ?_;refine AW.frz 2 (o:=Gi v8) (by simp [h1]) rfl [] [(0,AdT v0 v1 v2 v3 v4 v5 v6 v7 v8 v9 v10 v11 v12)] trivial ⟨⟨by simp,Aan.cells [Iz v0,Iz v1,AV.str v2,Iz v3,Iz v4,Iz v5,Iz v6,Iz v7,Sc 2 v8,Q0 v9,AV.str v10,Iz v11,AV.str v12],by simp [h1],(.mk (.cons (.same _) (.cons (.same _) (.cons (.same _) (.cons (.same _) (.cons (.same _) (.cons (.same _) (.cons (.same _) (.cons (.same _) (.cons (.l (by simp) (by simp) (by simp) (by simp)) (.cons (.same _) (.cons (.same _) (.cons (.same _) (.cons (.same _) .nil))))))))))))))⟩,trivial⟩ ?_;refine WJ [(1,.ptr 0 0),(2,.ptr 1 0)] [(0,AdT v0 v1 v2 v3 v4 v5 v6 v7 v8 v9 v10 v11 v12),(1,Ae2 )] 3 (by simp [h1]) ?_;refine SR [9] N5 fun _ _ g r=>?_;obtain ⟨h2,hF⟩:=AaP hF;have h2_:=h2;try simp at h2_
 refine TL (A2 h1 h2) g r [] [] [0] [(0,.cells [Iz v0,Iz v1,AV.str v2,Iz v3,Iz v4,Iz v5,Iz v6,Iz v7,Lz v8,AV.slc 3 0 3 v9.length false,AV.str v10,Iz v11,AV.str v12]),(3,.grow (AaM (List.map AaD.av v9)))] 4 ?_;refine AW.frz 3 (o := .grow (AaM (List.map AaD.av v9))) (by simp [h1,h2]) rfl [] [(0,AdT v0 v1 v2 v3 v4 v5 v6 v7 v8 v9 v10 v11 v12)] trivial ⟨⟨by simp,Aan.cells [Iz v0,Iz v1,AV.str v2,Iz v3,Iz v4,Iz v5,Iz v6,Iz v7,Lz v8,AV.slc 3 0 3 v9.length false,AV.str v10,Iz v11,AV.str v12],by simp [h1,h2],(.mk (.cons (.same _) (.cons (.same _) (.cons (.same _) (.cons (.same _) (.cons (.same _) (.cons (.same _) (.cons (.same _) (.cons (.same _) (.cons (.same _) (.cons (.l (by simp) (by simp) (by simp) (by simp)) (.cons (.same _) (.cons (.same _) (.cons (.same _) .nil))))))))))))))⟩,trivial⟩ ?_;refine WJ [(1,.ptr 0 0),(2,.ptr 1 0)] [(0,AdT v0 v1 v2 v3 v4 v5 v6 v7 v8 v9 v10 v11 v12),(1,Ae2 )] 4 (by simp [h1,h2]) ?_;refine SQ [] N2 fun _ _ g r=>?_;try simp [h1,h2]
 and_intros <;> first | exact GK g | apply r | omega | (simp [h1,h2,maxLen] <;> omega)
 refine RM h0 [(0,1)] [(2,.ptr 0 0)] [(0,AdT v0 v1 v2 v3 v4 v5 v6 v7 v8 v9 v10 v11 v12)] 1 (by simp [h1,h2]) (by simp [h1,h2]) ?_;cases hF;exact AW.ret (hQ _ _ _ (by simp [Try.f27,h1,h2]) (AaE (by simp [h1,h2]))).1
theorem AcV (k : Nat) (v0 : (List Int)) (v1 : Int) (v2 : (List Int)) (hF : AbZ k v0 v1=some v2) :
 AbP Try.prog 63 [AV.lst false false (List.map (AV.int .u8) v0),AV.int .i64 v1] [] (Sc 0 v2) [some (.grow (List.map (AV.int .u8) v2))]:=by
 unfold AbZ at hF;refine EN Try.func63 ?_;intro c0 w0 Q h0 hQ
 refine WJ [(0,Lb v0),(1,Iz v1)] [] 0 (by simp) ?_;refine SW trivial [] [none] [] [] [] [] 0 ?_;refine SR [8] N3 fun _ _ g r=>?_;obtain ⟨h1,hF⟩:=AaP hF;have h1_:=h1;try simp at h1_
 refine TL h1 g r [0] [(5,Sc 0 v0)] [] [(0,.grow (List.map (AV.int .u8) v0))] 1 ?_;refine AW.seq fun K0 hK0=>?_;refine SW h1 [] [none] [] [(6,Iz 7)] [] [] 1 ?_;refine AW.block ?_;refine AW.loopF (α:=(Int×(List Int))) (fun n (v3,v4)=>AbZ.L1 k v1 n v3 v4=some v2) (fun (v3,v4)=>[(1,Iz v1),(5,Sc 0 v4),(6,Iz v3)]) (fun (v3,v4)=>[(0,.grow (List.map (AV.int .u8) v4))]) 1 k ((7,v0)) hF (by simp [h1]) (by simp [h1]) (by simp) ?_;rintro (_|n1) ⟨v3,v4⟩ hF K1 hK1
 ·try dsimp only at hF
  rw [AbZ.L1] at hF; cases hF
 try dsimp only at hF
 rw [AbZ.L1] at hF;refine AW.seq fun K2 hK2=>?_;refine SW h1 [] N2 [] [(10,.bool (decide (0≤v3)))] [] [] 1 ?_;rcases IFo hF with ⟨h2,hF⟩|⟨h2,hF⟩
 ·have h2_:=h2;try simp at h2_
  have F1:=A3 h1 h2 h2_;refine CT (by simp [F1] <;> omega) ?_;refine AW.skip (hK2 _ _ _ ?_);refine AW.seq fun K3 hK3=>?_;refine AW.block ?_;refine RG [] N10 fun _ _ g r=>?_;obtain ⟨h3,hF⟩:=AaP hF;obtain ⟨h4,hF⟩:=AaP hF;have h4_:=h4;try simp at h4_
  have F2:=A3 F1 h3 h4;try simp [F2]
  and_intros <;> first | exact GK g | apply r | omega | (simp [maxLen,F2] <;> omega)
  refine hK3 _ _ _ ?_;refine WK [(1,Iz v1),(5,.slc 1 0 1 ((v4++([IntKind.wrap .u8 (Int.fdiv v1 (2 ^ (min ((IntKind.wrap .u64 (IntKind.wrap .i64 (8*v3))).toNat) 64)))] : List Int)).length) false),(6,Iz v3)] [(1,.grow (List.map (AV.int .u8) (v4++([IntKind.wrap .u8 (Int.fdiv v1 (2 ^ (min ((IntKind.wrap .u64 (IntKind.wrap .i64 (8*v3))).toNat) 64)))] : List Int))))] 2 (by simp [F2] <;> omega) (by simp [F2]) ?_;refine RG [] N3 fun _ _ g r=>?_;try simp [F2]
  and_intros <;> first | exact GK g | apply r | omega | (simp [maxLen,F2] <;> omega)
  refine hK1 _ _ _ ?_;refine RN h0 [(0,1)] [(1,Iz v1),(5,.slc 0 0 1 ((v4++([IntKind.wrap .u8 (Int.fdiv v1 (2 ^ (min ((IntKind.wrap .u64 (IntKind.wrap .i64 (8*v3))).toNat) 64)))] : List Int)).length) false),(6,Iz (IntKind.wrap .i64 (v3-1)))] [(0,.grow (List.map (AV.int .u8) (v4++([IntKind.wrap .u8 (Int.fdiv v1 (2 ^ (min ((IntKind.wrap .u64 (IntKind.wrap .i64 (8*v3))).toNat) 64)))] : List Int))))] 1 (by simp [F2] <;> omega) (by simp [F2]) ?_;exact NX (k':=n1) ((IntKind.wrap .i64 (v3-1),v4++([IntKind.wrap .u8 (Int.fdiv v1 (2 ^ (min ((IntKind.wrap .u64 (IntKind.wrap .i64 (8*v3))).toNat) 64)))] : List Int))) hF (by simp [F2]) (by simp [F2])
 ·have h2_:=h2;try simp at h2_
  have F3:=A3 h1 h2 h2_;refine CF (by simp [F3] <;> omega) ?_;refine AW.exit ?_;try simp
  refine hK0 _ _ _ ?_;refine SW F3 [] N2 [1,5,6] [(4,Sc 0 v4)] [] [] 1 ?_;cases hF;exact AW.ret (hQ _ _ _ (by simp [Try.f63,F3]) (AaE (by simp [F3]))).1
theorem AeR (k : Nat) (v0 : (List Int)) (v1 : ByteArray) (v2 : (List Int)) (hF : AdP k v0 v1=some v2) :
 AbP Try.prog 62 [AV.lst false false (List.map (AV.int .u8) v0),AV.str v1] [] (Sc 0 v2) [some (.grow (List.map (AV.int .u8) v2))]:=by
 unfold AdP at hF;refine EN Try.func62 ?_;intro c0 w0 Q h0 hQ
 refine WJ [(0,Lb v0),(1,.str v1)] [] 0 (by simp) ?_;refine SW trivial [] [none] [] [] [] [] 0 ?_;refine SQ [] N7 fun _ _ g r=>?_;try simp
 and_intros
 try any_goals first | omega | (simp [maxLen] <;> omega)
 obtain ⟨v3,h1,hF⟩:=AaG hF;refine AC (AcV k _ _ _ h1) (.cons (.same (by simp)) (.cons (.same (by simp)) .nil)) ?_;obtain ⟨h2,hF⟩:=AaP hF;have h2_:=h2;try simp at h2_
 try simp [h2]
 and_intros <;> first | exact GK g | apply r | omega | (simp [h2,maxLen] <;> omega)
 refine RM h0 [(0,1)] [(4,.slc 0 0 1 ((v3++(bI v1)).length) false)] [(0,.grow (List.map (AV.int .u8) (v3++(bI v1))))] 1 (by simp [h2] <;> omega) (by simp [h2]) ?_;cases hF;exact AW.ret (hQ _ _ _ (by simp [Try.f62,h2]) (AaE (by simp [h2]))).1
theorem AjT (k : Nat) (v0 v1 v2 : (List Int)) (hF : Ab9 k v0 v1=some v2) :
 AbP Try.prog 99 [AV.lst false false (List.map (AV.int .u8) v0),AV.lst false false (List.map (AV.int .i64) v1)] [] (Sc 0 v2) [some (.grow (List.map (AV.int .u8) v2))]:=by
 unfold Ab9 at hF;refine EN Try.func99 ?_;intro c0 w0 Q h0 hQ
 refine WJ [(0,Lb v0),(1,Lz v1)] [] 0 (by simp) ?_;refine SW trivial [] [none] [] [] [] [] 0 ?_;obtain ⟨v3,h1,hF⟩:=AaG hF;refine CL trivial [] N5 (AcV k _ _ _ h1) [0] [(5,Sc 0 v3)] [] [(0,.grow (List.map (AV.int .u8) v3))] 1 ?_;refine AW.seq fun K0 hK0=>?_;refine SW trivial [] [none] [] [(6,Iz 0)] [] [] 1 ?_;refine AW.block ?_;refine AW.loopF (α:=(Int×(List Int))) (fun n (v4,v5)=>Ab9.L1 k v1 n v4 v5=some v2) (fun (v4,v5)=>[(1,Lz v1),(5,Sc 0 v5),(6,Iz v4)]) (fun (v4,v5)=>[(0,.grow (List.map (AV.int .u8) v5))]) 1 k ((0,v3)) hF (by simp) (by simp) (by simp) ?_;rintro (_|n1) ⟨v4,v5⟩ hF K1 hK1
 ·try dsimp only at hF
  rw [Ab9.L1] at hF; cases hF
 try dsimp only at hF
 rw [Ab9.L1] at hF;refine AW.seq fun K2 hK2=>?_;refine SW trivial [] N4 [] [(14,.bool (decide (v4<(v1.length : Int))))] [] [] 1 ?_;rcases IFo hF with ⟨h2,hF⟩|⟨h2,hF⟩
 ·have h2_:=h2;try simp at h2_
  refine CT (by simp [h2,h2_] <;> omega) ?_;refine AW.skip (hK2 _ _ _ ?_);refine WJ [(1,Lz v1),(5,Sc 0 v5),(6,Iz v4)] [(0,.grow (List.map (AV.int .u8) v5))] 1 (by simp [h2,h2_]) ?_;refine AW.frz 0 (o := .grow (List.map (AV.int .u8) v5)) (by simp [h2,h2_]) rfl [(5,Lb v5)] [] ⟨(.l (by simp) (by simp) (by simp) (by simp)),trivial⟩ trivial ?_;refine WJ [(1,Lz v1),(5,Lb v5),(6,Iz v4)] [] 1 (by simp [h2,h2_]) ?_;refine AW.seq fun K3 hK3=>?_;refine AW.block ?_;refine RG [] N7 fun _ _ g r=>?_;obtain ⟨v6,h3,h4,h5,hF⟩:=Aai hF;have h5_:=AbA h5;try simp at h5_
  have h4_:=h4;try simp at h4_
  have F1:=A7 h2 h2_ h3 h4 h5 h5_ h4_;try simp [F1]
  and_intros
  try any_goals first | omega | (simp [maxLen,F1] <;> omega)
  obtain ⟨v7,h6,hF⟩:=AaG hF;refine AC (AcV k _ _ _ h6) (.cons (.same (by simp [F1])) (.cons (.same (by simp [F1])) .nil)) ?_;try simp [F1]
  and_intros <;> first | exact GK g | apply r | omega | (simp [maxLen,F1] <;> omega)
  refine hK3 _ _ _ ?_;refine WJ [(1,Lz v1),(5,Sc 1 v7),(6,Iz v4)] [(1,.grow (List.map (AV.int .u8) v7))] 2 (by simp [F1]) ?_;refine RG [] N3 fun _ _ g r=>?_;try simp [F1]
  and_intros <;> first | exact GK g | apply r | omega | (simp [maxLen,F1] <;> omega)
  refine hK1 _ _ _ ?_;refine RN h0 [(0,1)] [(1,Lz v1),(5,Sc 0 v7),(6,Iz (IntKind.wrap .i64 (v4+1)))] [(0,.grow (List.map (AV.int .u8) v7))] 1 (by simp [F1]) (by simp [F1]) ?_;exact NX (k':=n1) ((IntKind.wrap .i64 (v4+1),v7)) hF (by simp [F1]) (by simp [F1])
 ·have h2_:=h2;try simp at h2_
  refine CF (by simp [h2,h2_] <;> omega) ?_;refine AW.exit ?_;try simp
  refine hK0 _ _ _ ?_;refine SW (A2 h2 h2_) [] N2 [1,5,6] [(4,Sc 0 v5)] [] [] 1 ?_;cases hF;exact AW.ret (hQ _ _ _ (by simp [Try.f99,h2,h2_]) (AaE (by simp [h2,h2_]))).1
abbrev Abh (v0 v1 : Int) (v2 : ByteArray) (v3 v4 v5 v6 v7 : Int) (v8 : (List Int)) (v9 : (List AaD)) (v10 : ByteArray) (v11 : Int) (v12 : ByteArray) : Aan := .cells [Iz v0,Iz v1,AV.str v2,Iz v3,Iz v4,Iz v5,Iz v6,Iz v7,Lz v8,Q0 v9,AV.str v10,Iz v11,AV.str v12]
theorem Aey (k : Nat) (v0 v1 : Int) (v2 : ByteArray) (v3 v4 v5 v6 v7 : Int) (v8 : (List Int)) (v9 : (List AaD)) (v10 : ByteArray) (v11 : Int) (v12 : ByteArray) (v13 : (List Int)) (hF : AbF k v0 v1 v2 v3 v4 v5 v6 v7 v8 v9 v10 v11 v12=some v13) :
 AbP Try.prog 56 [AV.agg [AV.int .i64 v0,AV.int .i64 v1,AV.str v2,AV.int .i64 v3,AV.int .i64 v4,AV.int .i64 v5,AV.int .i64 v6,AV.int .i64 v7,AV.lst false false (List.map (AV.int .i64) v8),Q0 v9,AV.str v10,AV.int .i64 v11,AV.str v12]] [] (Sc 0 v13) [some (.grow (List.map (AV.int .u8) v13))]:=by
 unfold AbF at hF;refine EN Try.func56 ?_;intro c0 w0 Q h0 hQ
 refine WJ [(0,.agg [Iz v0,Iz v1,AV.str v2,Iz v3,Iz v4,Iz v5,Iz v6,Iz v7,Lz v8,Q0 v9,AV.str v10,Iz v11,AV.str v12])] [] 0 (by simp) ?_;refine SW trivial [] N2 [0] [(1,.ptr 0 0)] [] [(0,Abh v0 v1 v2 v3 v4 v5 v6 v7 v8 v9 v10 v11 v12)] 1 ?_;refine SR [] N10 fun _ _ g r=>?_;try simp
 and_intros
 try any_goals first | omega | (simp [maxLen] <;> omega)
 obtain ⟨v14,h1,hF⟩:=AaG hF;refine AC (AcV k _ _ _ h1) (.cons (Coe.fl (by simp)) (.cons (.same (by simp)) .nil)) ?_;try simp
 and_intros
 try any_goals first | omega | (simp [maxLen] <;> omega)
 obtain ⟨v15,h2,hF⟩:=AaG hF;refine AaO (AcV k _ _ _ h2) (by simp) [] [1] [] rfl (.cons (Coe.l (o := .grow (List.map (AV.int .u8) v14)) (by simp) rfl (by simp) (by simp [AcA]) (by simp) (by simp)) (.cons (.same (by simp)) .nil)) (by simp) (by decide) (by simp) (by simp) (.inr ⟨by simp,by simp⟩) (by simp) (by simp) ?_;try simp
 and_intros
 try any_goals first | omega | (simp [maxLen] <;> omega)
 obtain ⟨v16,h3,hF⟩:=AaG hF;refine AaO (AeR k _ _ _ h3) (by simp) [] [2] [] rfl (.cons (Coe.l (o := .grow (List.map (AV.int .u8) v15)) (by simp) rfl (by simp) (by simp [AcA]) (by simp) (by simp)) (.cons (.same (by simp)) .nil)) (by simp) (by decide) (by simp) (by simp) (.inr ⟨by simp,by simp⟩) (by simp) (by simp) ?_;refine TL trivial g r [] [(3,Sc 3 v16)] [] [(3,.grow (List.map (AV.int .u8) v16))] 4 ?_;refine AW.frz 3 (o := .grow (List.map (AV.int .u8) v16)) (by simp) rfl [(3,Lb v16)] [] ⟨(.l (by simp) (by simp) (by simp) (by simp)),trivial⟩ trivial ?_;refine WJ [(1,.ptr 0 0),(3,Lb v16)] [(0,Abh v0 v1 v2 v3 v4 v5 v6 v7 v8 v9 v10 v11 v12)] 4 (by simp) ?_;refine AW.seq fun K0 hK0=>?_;refine SW trivial [] N13 [] [(27,.lst false true (List.map (AV.int .i64) ([v3,v4,v5,v6,v7] : List Int))),(28,Iz (([v3,v4,v5,v6,v7] : List Int).length : Int)),(29,Iz 0)] [] [] 4 ?_;refine AW.block ?_;refine RM h0 [(0,0)] [(1,.ptr 0 0),(3,Lb v16),(27,.lst false true (List.map (AV.int .i64) ([v3,v4,v5,v6,v7] : List Int))),(28,Iz (([v3,v4,v5,v6,v7] : List Int).length : Int)),(29,Iz 0)] [(0,Abh v0 v1 v2 v3 v4 v5 v6 v7 v8 v9 v10 v11 v12)] 1 (by simp) (by simp) ?_;refine AW.loopF (α:=((List Int)×Int)) (fun n (v17,v18)=>AbF.L1 k v3 v4 v5 v6 v7 v8 v9 v10 n v17 v18=some v13) (fun (v17,v18)=>[(1,.ptr 0 0),(3,Lb v17),(27,.lst false true (List.map (AV.int .i64) ([v3,v4,v5,v6,v7] : List Int))),(28,Iz (([v3,v4,v5,v6,v7] : List Int).length : Int)),(29,Iz v18)]) (fun (v17,v18)=>[(0,Abh v0 v1 v2 v3 v4 v5 v6 v7 v8 v9 v10 v11 v12)]) 1 k ((v16,0)) hF (by simp) (by simp) (by simp) ?_;rintro (_|n1) ⟨v17,v18⟩ hF K1 hK1
 ·try dsimp only at hF
  rw [AbF.L1] at hF; cases hF
 try dsimp only at hF
 rw [AbF.L1] at hF;refine SW trivial [] [none] [] [(30,.bool (decide (v18<(([v3,v4,v5,v6,v7] : List Int).length : Int))))] [] [] 1 ?_;refine AW.seq fun K2 hK2=>?_;rcases IFo hF with ⟨h4,hF⟩|⟨h4,hF⟩
 ·have h4_:=h4;try simp at h4_
  refine CT (by simp [h4,h4_] <;> omega) ?_;refine AW.skip (hK2 _ _ _ ?_);refine AW.seq fun K3 hK3=>?_;refine AW.block ?_;refine SR [] N3 fun _ _ g r=>?_;obtain ⟨v19,h5,h6,h7,hF⟩:=Aai hF;have h7_:=AbA h7;try simp at h7_
  have h6_:=h6;try simp at h6_
  have h7__:=AbA (AmU ((AV.int .i64)) h7);try simp at h7__
  have F1:=A8 h4 h4_ h5 h6 h7 h7_ h6_ h7__;refine TL F1 g r [] [(5,Iz v19)] [] [] 1 ?_;refine RG [] N4 fun _ _ g r=>?_;try simp [F1]
  and_intros
  try any_goals first | omega | (simp [maxLen,F1] <;> omega)
  obtain ⟨v20,h8,hF⟩:=AaG hF;refine AC (AcV k _ _ _ h8) (.cons (.same (by simp [F1])) (.cons (.same (by simp [F1])) .nil)) ?_;try simp [F1]
  and_intros <;> first | exact GK g | apply r | omega | (simp [maxLen,F1] <;> omega)
  refine hK3 _ _ _ ?_;refine WJ [(1,.ptr 0 0),(3,Sc 1 v20),(27,.lst false true (List.map (AV.int .i64) ([v3,v4,v5,v6,v7] : List Int))),(28,Iz (([v3,v4,v5,v6,v7] : List Int).length : Int)),(29,Iz v18)] [(0,Abh v0 v1 v2 v3 v4 v5 v6 v7 v8 v9 v10 v11 v12),(1,.grow (List.map (AV.int .u8) v20))] 2 (by simp [F1]) ?_;refine AW.frz 1 (o := .grow (List.map (AV.int .u8) v20)) (by simp [F1]) rfl [(3,Lb v20)] [] ⟨(.l (by simp) (by simp) (by simp) (by simp)),trivial⟩ trivial ?_;refine WJ [(1,.ptr 0 0),(3,Lb v20),(27,.lst false true (List.map (AV.int .i64) ([v3,v4,v5,v6,v7] : List Int))),(28,Iz (([v3,v4,v5,v6,v7] : List Int).length : Int)),(29,Iz v18)] [(0,Abh v0 v1 v2 v3 v4 v5 v6 v7 v8 v9 v10 v11 v12)] 2 (by simp [F1]) ?_;refine RG [] N2 fun _ _ g r=>?_;try simp [F1]
  and_intros <;> first | exact GK g | apply r | omega | (simp [maxLen,F1] <;> omega)
  refine hK1 _ _ _ ?_;refine RN h0 [(0,0)] [(1,.ptr 0 0),(3,Lb v20),(27,.lst false true (List.map (AV.int .i64) ([v3,v4,v5,v6,v7] : List Int))),(28,Iz (([v3,v4,v5,v6,v7] : List Int).length : Int)),(29,Iz (IntKind.wrap .i64 (v18+1)))] [(0,Abh v0 v1 v2 v3 v4 v5 v6 v7 v8 v9 v10 v11 v12)] 1 (by simp [F1]) (by simp [F1]) ?_;exact NX (k':=n1) ((v20,IntKind.wrap .i64 (v18+1))) hF (by simp [F1]) (by simp [F1])
 ·have h4_:=h4;try simp at h4_
  refine CF (by simp [h4,h4_] <;> omega) ?_;refine AW.exit ?_;try simp
  refine hK0 _ _ _ ?_;refine SR [] N9 fun _ _ g r=>?_;try simp [h4,h4_]
  and_intros
  try any_goals first | omega | (simp [h4,h4_,maxLen] <;> omega)
  obtain ⟨v21,h9,hF⟩:=AaG hF;refine AC (AjT k _ _ _ h9) (.cons (.same (by simp [h4,h4_])) (.cons (.same (by simp [h4,h4_])) .nil)) ?_;try simp [h4,h4_]
  and_intros
  try any_goals first | omega | (simp [h4,h4_,maxLen] <;> omega)
  obtain ⟨v22,h10,hF⟩:=AaG hF;refine AaO (AcV k _ _ _ h10) (by simp) [] [1] [] rfl (.cons (Coe.l (o := .grow (List.map (AV.int .u8) v21)) (by simp [h4,h4_]) rfl (by simp [h4,h4_]) (by simp [AcA]) (by simp [h4,h4_]) (by simp [h4,h4_])) (.cons (.same (by simp [h4,h4_])) .nil)) (by simp [h4,h4_]) (by decide) (by simp) (by simp) (.inr ⟨by simp,by simp⟩) (by simp) (by simp) ?_;refine TL (A2 h4 h4_) g r [3,27,28,29] [(3,Sc 2 v22)] [] [(2,.grow (List.map (AV.int .u8) v22))] 3 ?_;refine AW.frz 2 (o := .grow (List.map (AV.int .u8) v22)) (by simp [h4,h4_]) rfl [(3,Lb v22)] [] ⟨(.l (by simp) (by simp) (by simp) (by simp)),trivial⟩ trivial ?_;refine WJ [(1,.ptr 0 0),(3,Lb v22)] [(0,Abh v0 v1 v2 v3 v4 v5 v6 v7 v8 v9 v10 v11 v12)] 3 (by simp [h4,h4_]) ?_;refine AW.seq fun K4 hK4=>?_;refine SW (A2 h4 h4_) [] [none] [] [(6,Iz 0)] [] [] 3 ?_;refine AW.block ?_;refine RM h0 [(0,0)] [(1,.ptr 0 0),(3,Lb v22),(6,Iz 0)] [(0,Abh v0 v1 v2 v3 v4 v5 v6 v7 v8 v9 v10 v11 v12)] 1 (by simp [h4,h4_]) (by simp [h4,h4_]) ?_;refine AW.loopF (α:=((List Int)×Int)) (fun n (v23,v24)=>AbF.L2 k v9 v10 n v23 v24=some v13) (fun (v23,v24)=>[(1,.ptr 0 0),(3,Lb v23),(6,Iz v24)]) (fun (v23,v24)=>[(0,Abh v0 v1 v2 v3 v4 v5 v6 v7 v8 v9 v10 v11 v12)]) 1 k ((v22,0)) hF (by simp [h4,h4_]) (by simp [h4,h4_]) (by simp) ?_;rintro (_|n2) ⟨v23,v24⟩ hF K5 hK5
  ·try dsimp only at hF
   rw [AbF.L2] at hF; cases hF
  try dsimp only at hF
  rw [AbF.L2] at hF;refine AW.seq fun K6 hK6=>?_;refine SW (A2 h4 h4_) [] N5 [] [(49,.bool (decide (v24<(v9.length : Int))))] [] [] 1 ?_;rcases IFo hF with ⟨h11,hF⟩|⟨h11,hF⟩
  ·have h11_:=h11;try simp at h11_
   have F2:=A4 h4 h4_ h11 h11_;refine CT (by simp [F2] <;> omega) ?_;refine AW.skip (hK6 _ _ _ ?_);refine AW.seq fun K7 hK7=>?_;refine AW.block ?_;refine SR [] N7 fun _ _ g r=>?_;obtain ⟨v25,h12,h13,h14,hF⟩:=Aai hF;have h14_:=AbA h14;try simp at h14_
   have h13_:=h13;try simp at h13_
   have F3:=A6 F2 h12 h13 h14 h14_ h13_;refine TL F3 g r [] [(7,.ptr 1 0)] [] [(1,.cells [Iz v25.Author,Iz v25.Height,AV.str v25.Digest])] 2 ?_;refine RG [] N11 fun _ _ g r=>?_;try simp [F3]
   and_intros
   try any_goals first | omega | (simp [maxLen,F3] <;> omega)
   obtain ⟨v26,h15,hF⟩:=AaG hF;refine AC (AcV k _ _ _ h15) (.cons (.same (by simp [F3])) (.cons (.same (by simp [F3])) .nil)) ?_;try simp [F3]
   and_intros
   try any_goals first | omega | (simp [maxLen,F3] <;> omega)
   obtain ⟨v27,h16,hF⟩:=AaG hF;refine AaO (AcV k _ _ _ h16) (by simp) [] [2] [] rfl (.cons (Coe.l (o := .grow (List.map (AV.int .u8) v26)) (by simp [F3]) rfl (by simp [F3]) (by simp [AcA]) (by simp [F3]) (by simp [F3])) (.cons (.same (by simp [F3])) .nil)) (by simp [F3]) (by decide) (by simp) (by simp) (.inr ⟨by simp,by simp⟩) (by simp) (by simp) ?_;try simp [F3]
   and_intros
   try any_goals first | omega | (simp [maxLen,F3] <;> omega)
   obtain ⟨v28,h17,hF⟩:=AaG hF;refine AaO (AeR k _ _ _ h17) (by simp) [] [3] [] rfl (.cons (Coe.l (o := .grow (List.map (AV.int .u8) v27)) (by simp [F3]) rfl (by simp [F3]) (by simp [AcA]) (by simp [F3]) (by simp [F3])) (.cons (.same (by simp [F3])) .nil)) (by simp [F3]) (by decide) (by simp) (by simp) (.inr ⟨by simp,by simp⟩) (by simp) (by simp) ?_;try simp [F3]
   and_intros <;> first | exact GK g | apply r | omega | (simp [maxLen,F3] <;> omega)
   refine hK7 _ _ _ ?_;refine WJ [(1,.ptr 0 0),(3,Sc 4 v28),(6,Iz v24)] [(0,Abh v0 v1 v2 v3 v4 v5 v6 v7 v8 v9 v10 v11 v12),(4,.grow (List.map (AV.int .u8) v28))] 5 (by simp [F3]) ?_;refine AW.frz 4 (o := .grow (List.map (AV.int .u8) v28)) (by simp [F3]) rfl [(3,Lb v28)] [] ⟨(.l (by simp) (by simp) (by simp) (by simp)),trivial⟩ trivial ?_;refine WJ [(1,.ptr 0 0),(3,Lb v28),(6,Iz v24)] [(0,Abh v0 v1 v2 v3 v4 v5 v6 v7 v8 v9 v10 v11 v12)] 5 (by simp [F3]) ?_;refine RG [] N3 fun _ _ g r=>?_;try simp [F3]
   and_intros <;> first | exact GK g | apply r | omega | (simp [maxLen,F3] <;> omega)
   refine hK5 _ _ _ ?_;refine RN h0 [(0,0)] [(1,.ptr 0 0),(3,Lb v28),(6,Iz (IntKind.wrap .i64 (v24+1)))] [(0,Abh v0 v1 v2 v3 v4 v5 v6 v7 v8 v9 v10 v11 v12)] 1 (by simp [F3]) (by simp [F3]) ?_;exact NX (k':=n2) ((v28,IntKind.wrap .i64 (v24+1))) hF (by simp [F3]) (by simp [F3])
  ·have h11_:=h11;try simp at h11_
   have F4:=A4 h4 h4_ h11 h11_;refine CF (by simp [F4] <;> omega) ?_;refine AW.exit ?_;try simp
   refine hK4 _ _ _ ?_;refine SQ [] N5 fun _ _ g r=>?_;try simp [F4]
   and_intros
   try any_goals first | omega | (simp [maxLen,F4] <;> omega)
   obtain ⟨v29,h18,hF⟩:=AaG hF;refine AC (AeR k _ _ _ h18) (.cons (.same (by simp [F4])) (.cons (.same (by simp [F4])) .nil)) ?_;try simp [F4]
   and_intros <;> first | exact GK g | apply r | omega | (simp [maxLen,F4] <;> omega)
   refine RM h0 [(0,1)] [(2,Sc 0 v29)] [(0,.grow (List.map (AV.int .u8) v29))] 1 (by simp [F4]) (by simp [F4]) ?_;cases hF;exact AW.ret (hQ _ _ _ (by simp [Try.f56,F4]) (AaE (by simp [F4]))).1
theorem Aga (k : Nat) (v0 : (List Int)) (hF : Ac3 k=some v0) :
 AbP Try.prog 79 [] [] (AV.lst false false (List.map (AV.int .u32) v0)) []:=by
 unfold Ac3 at hF;refine EN Try.func79 ?_;intro c0 w0 Q h0 hQ
 refine WJ [] [] 0 (by simp) ?_;refine SW trivial [] [none] [] [] [] [] 0 ?_;refine SW trivial [] N2 [] [(0,.lst false true (List.map (AV.int .u32) ([1116352408,1899447441,3049323471,3921009573,961987163,1508970993,2453635748,2870763221,3624381080,310598401,607225278,1426881987,1925078388,2162078206,2614888103,3248222580,3835390401,4022224774,264347078,604807628,770255983,1249150122,1555081692,1996064986,2554220882,2821834349,2952996808,3210313671,3336571891,3584528711,113926993,338241895,666307205,773529912,1294757372,1396182291,1695183700,1986661051,2177026350,2456956037,2730485921,2820302411,3259730800,3345764771,3516065817,3600352804,4094571909,275423344,430227734,506948616,659060556,883997877,958139571,1322822218,1537002063,1747873779,1955562222,2024104815,2227730452,2361852424,2428436474,2756734187,3204031479,3329325298] : List Int)))] [] [] 0 ?_;refine AW.flg [(0,Lw ([1116352408,1899447441,3049323471,3921009573,961987163,1508970993,2453635748,2870763221,3624381080,310598401,607225278,1426881987,1925078388,2162078206,2614888103,3248222580,3835390401,4022224774,264347078,604807628,770255983,1249150122,1555081692,1996064986,2554220882,2821834349,2952996808,3210313671,3336571891,3584528711,113926993,338241895,666307205,773529912,1294757372,1396182291,1695183700,1986661051,2177026350,2456956037,2730485921,2820302411,3259730800,3345764771,3516065817,3600352804,4094571909,275423344,430227734,506948616,659060556,883997877,958139571,1322822218,1537002063,1747873779,1955562222,2024104815,2227730452,2361852424,2428436474,2756734187,3204031479,3329325298] : List Int))] [] ⟨(.lst (by simp)),trivial⟩ trivial (by simp) ?_;cases hF;refine AW.ret (hQ _ _ _ ?_ (AaE ?_)).1
 ·simp [Try.f79]
 ·simp
theorem AcE (k : Nat) (v0 v1 v2 : Int) (hF : Aa5 k v0 v1=some v2) :
 AbP Try.prog 113 [AV.int .u32 v0,AV.int .u64 v1] [] (AV.int .u32 v2) []:=by
 unfold Aa5 at hF;refine EN Try.func113 ?_;intro c0 w0 Q h0 hQ
 refine WJ [(0,.int .u32 v0),(1,.int .u64 v1)] [] 0 (by simp) ?_;refine SW trivial [] [none] [] [] [] [] 0 ?_;refine SR [] N9 fun _ _ g r=>?_;obtain ⟨h1,hF⟩:=AaP hF;obtain ⟨h2,hF⟩:=AaP hF;refine TL (A2 h1 h2) g r [0,1] [(4,.int .u32 (AaK .or .u32 (Int.fdiv v0 (2 ^ (min v1.toNat 32))) (IntKind.wrap .u32 (v0*2 ^ (min ((IntKind.wrap .u64 (32-v1)).toNat) 32)))))] [] [] 0 ?_;cases hF;exact AW.ret (hQ _ _ _ (by simp [Try.f113,h1,h2]) (AaE (by simp [h1,h2]))).1
theorem Ain (k : Nat) (v0 v1 v2 v3 : (List Int)) (hF : Aad k v0 v1 v2=some v3) :
 AbP Try.prog 80 [AV.lst false false (List.map (AV.int .u32) v0),AV.lst false false (List.map (AV.int .u8) v1),AV.lst false false (List.map (AV.int .u32) v2)] [] (Sc 0 v3) [some (.grow (List.map (AV.int .u32) v3))]:=by
 unfold Aad at hF;refine EN Try.func80 ?_;intro c0 w0 Q h0 hQ
 refine WJ [(0,Lw v0),(1,Lb v1),(2,Lw v2)] [] 0 (by simp [-List.reduceReplicate,AaB,AaC,AaA]) ?_;refine SQ [] [none] fun _ _ g r=>?_;try simp [-List.reduceReplicate,AaB,AaC,AaA]
 and_intros <;> first | exact GK g | apply r | omega | (simp [-List.reduceReplicate,AaB,AaC,AaA,maxLen] <;> omega)
 refine WJ [(0,Lw v0),(1,Lb v1),(2,Lw v2)] [] 0 (by simp [-List.reduceReplicate,AaB,AaC,AaA]) ?_;refine SQ [19] N2 fun _ _ g r=>?_;obtain ⟨h1,hF⟩:=AaP hF;obtain ⟨v4,h2,hF⟩:=AeJ hF;have h2l : v4.length=64:=by rw [← h2]; exact List.length_replicate
 have h2m : List.replicate 64 (AV.int .u32 0)=List.map (AV.int .u32) v4:=by rw [← h2]; exact (List.map_replicate ..).symm
 have h2n:=AfU h2l (by decide);have F1:=A4 h1 h2l h2m h2n;try simp [-List.reduceReplicate,AaB,AaC,AaA,F1]
 and_intros <;> first | exact GK g | apply r | omega | (simp [-List.reduceReplicate,AaB,AaC,AaA,maxLen,F1] <;> omega)
 refine WJ [(0,Lw v0),(1,Lb v1),(2,Lw v2),(7,.slc 0 0 1 v4.length true)] [(0,.cells (List.map (AV.int .u32) v4))] 1 (by simp [-List.reduceReplicate,AaB,AaC,AaA,F1]) ?_;refine AW.seq fun K0 hK0=>?_;refine SQ [] [none] fun _ _ g r=>?_;try simp [-List.reduceReplicate,AaB,AaC,AaA,F1]
 and_intros <;> first | exact GK g | apply r | omega | (simp [-List.reduceReplicate,AaB,AaC,AaA,maxLen,F1] <;> omega)
 refine WJ [(0,Lw v0),(1,Lb v1),(2,Lw v2),(7,.slc 0 0 1 v4.length true),(8,Iz 0)] [(0,.cells (List.map (AV.int .u32) v4))] 1 (by simp [-List.reduceReplicate,AaB,AaC,AaA,F1]) ?_;refine AW.block ?_;refine AW.loopF (α:=(Int×(List Int))) (fun n (v5,v6)=>Aad.L1 k v0 v1 v2 n v5 v6=some v3) (fun (v5,v6)=>[(0,Lw v0),(1,Lb v1),(2,Lw v2),(7,.slc 0 0 1 v6.length true),(8,Iz v5)]) (fun (v5,v6)=>[(0,.cells (List.map (AV.int .u32) v6))]) 1 k ((0,v4)) hF (by simp [-List.reduceReplicate,AaB,AaC,AaA,F1]) (by simp [-List.reduceReplicate,AaB,AaC,AaA,F1]) (by simp) ?_;rintro (_|n1) ⟨v5,v6⟩ hF K1 hK1
 ·try dsimp only at hF
  rw [Aad.L1] at hF; cases hF
 try dsimp only at hF
 rw [Aad.L1] at hF;refine AW.seq fun K2 hK2=>?_;refine SQ [] N2 fun _ _ g r=>?_;try simp [-List.reduceReplicate,AaB,AaC,AaA,F1]
 and_intros <;> first | exact GK g | apply r | omega | (simp [-List.reduceReplicate,AaB,AaC,AaA,maxLen,F1] <;> omega)
 refine WJ [(0,Lw v0),(1,Lb v1),(2,Lw v2),(7,.slc 0 0 1 v6.length true),(8,Iz v5),(21,.bool (decide (v5<16)))] [(0,.cells (List.map (AV.int .u32) v6))] 1 (by simp [-List.reduceReplicate,AaB,AaC,AaA,F1]) ?_;rcases IFo hF with ⟨h3,hF⟩|⟨h3,hF⟩
 ·have h3_:=h3;try simp [-List.reduceReplicate] at h3_
  have F2:=A3 F1 h3 h3_;refine CT (by simp [-List.reduceReplicate,AaB,AaC,AaA,F2] <;> omega) ?_;refine AW.skip (hK2 _ _ _ ?_);refine AW.seq fun K3 hK3=>?_;refine AW.block ?_;refine RG [] N37 fun _ _ g r=>?_;obtain ⟨v7,h4,h5,h6,hF⟩:=Aai hF;have h6_:=AbA h6;try simp [-List.reduceReplicate] at h6_
  have h5_:=h5;try simp [-List.reduceReplicate] at h5_
  obtain ⟨v8,h7,h8,h9,hF⟩:=Aai hF;have h9_:=AbA h9;try simp [-List.reduceReplicate] at h9_
  have h8_:=h8;try simp [-List.reduceReplicate] at h8_
  obtain ⟨v9,h10,h11,h12,hF⟩:=Aai hF;have h12_:=AbA h12;try simp [-List.reduceReplicate] at h12_
  have h11_:=h11;try simp [-List.reduceReplicate] at h11_
  obtain ⟨v10,h13,h14,h15,hF⟩:=Aai hF;have h15_:=AbA h15;try simp [-List.reduceReplicate] at h15_
  have h14_:=h14;try simp [-List.reduceReplicate] at h14_
  obtain ⟨⟨h16,h17⟩,hF⟩:=AaP hF;have h17_:=Aa8 h17;have F3:=A9 F2 h4 h5 h6 h6_ h5_ h7 h8 (A9 h9 h9_ h8_ h10 h11 h12 h12_ h11_ (A8 h13 h14 h15 h15_ h14_ h16 h17 h17_));try simp [-List.reduceReplicate,AaB,AaC,AaA,F3]
  and_intros <;> first | exact GK g | apply r | omega | (simp [-List.reduceReplicate,AaB,AaC,AaA,maxLen,F3] <;> omega)
  refine hK3 _ _ _ ?_;refine WJ [(0,Lw v0),(1,Lb v1),(2,Lw v2),(7,.slc 0 0 1 ((v6.set (v5).toNat (AaK .or .u32 (AaK .or .u32 (AaK .or .u32 (IntKind.wrap .u32 ((IntKind.wrap .u32 v7)*2 ^ (24))) (IntKind.wrap .u32 ((IntKind.wrap .u32 v8)*2 ^ (16)))) (IntKind.wrap .u32 ((IntKind.wrap .u32 v9)*2 ^ (8)))) (IntKind.wrap .u32 v10))).length) true),(8,Iz v5)] [(0,.cells (List.map (AV.int .u32) (v6.set (v5).toNat (AaK .or .u32 (AaK .or .u32 (AaK .or .u32 (IntKind.wrap .u32 ((IntKind.wrap .u32 v7)*2 ^ (24))) (IntKind.wrap .u32 ((IntKind.wrap .u32 v8)*2 ^ (16)))) (IntKind.wrap .u32 ((IntKind.wrap .u32 v9)*2 ^ (8)))) (IntKind.wrap .u32 v10)))))] 1 (by simp [-List.reduceReplicate,AaB,AaC,AaA,F3]) ?_;refine RG [] N3 fun _ _ g r=>?_;try simp [-List.reduceReplicate,AaB,AaC,AaA,F3]
  and_intros <;> first | exact GK g | apply r | omega | (simp [-List.reduceReplicate,AaB,AaC,AaA,maxLen,F3] <;> omega)
  refine hK1 _ _ _ ?_;exact NX (k':=n1) ((IntKind.wrap .i64 (v5+1),v6.set (v5).toNat (AaK .or .u32 (AaK .or .u32 (AaK .or .u32 (IntKind.wrap .u32 ((IntKind.wrap .u32 v7)*2 ^ (24))) (IntKind.wrap .u32 ((IntKind.wrap .u32 v8)*2 ^ (16)))) (IntKind.wrap .u32 ((IntKind.wrap .u32 v9)*2 ^ (8)))) (IntKind.wrap .u32 v10)))) hF (by simp [-List.reduceReplicate,AaB,AaC,AaA,F3]) (by simp [-List.reduceReplicate,AaB,AaC,AaA,F3])
 ·have h3_:=h3;try simp [-List.reduceReplicate] at h3_
  have F4:=A3 F1 h3 h3_;refine CF (by simp [-List.reduceReplicate,AaB,AaC,AaA,F4] <;> omega) ?_;refine AW.exit ?_;try simp [-List.reduceReplicate]
  refine hK0 _ _ _ ?_;refine AW.seq fun K4 hK4=>?_;refine SQ [] [none] fun _ _ g r=>?_;try simp [-List.reduceReplicate,AaB,AaC,AaA,F4]
  and_intros <;> first | exact GK g | apply r | omega | (simp [-List.reduceReplicate,AaB,AaC,AaA,maxLen,F4] <;> omega)
  refine WJ [(0,Lw v0),(2,Lw v2),(7,.slc 0 0 1 v6.length true),(9,Iz 16)] [(0,.cells (List.map (AV.int .u32) v6))] 1 (by simp [-List.reduceReplicate,AaB,AaC,AaA,F4]) ?_;refine AW.block ?_;refine AW.loopF (α:=(Int×(List Int))) (fun n (v11,v12)=>Aad.L2 k v0 v2 n v11 v12=some v3) (fun (v11,v12)=>[(0,Lw v0),(2,Lw v2),(7,.slc 0 0 1 v12.length true),(9,Iz v11)]) (fun (v11,v12)=>[(0,.cells (List.map (AV.int .u32) v12))]) 1 k ((16,v6)) hF (by simp [-List.reduceReplicate,AaB,AaC,AaA,F4]) (by simp [-List.reduceReplicate,AaB,AaC,AaA,F4]) (by simp) ?_;rintro (_|n2) ⟨v11,v12⟩ hF K5 hK5
  ·try dsimp only at hF
   rw [Aad.L2] at hF; cases hF
  try dsimp only at hF
  rw [Aad.L2] at hF;refine AW.seq fun K6 hK6=>?_;refine SQ [] N2 fun _ _ g r=>?_;try simp [-List.reduceReplicate,AaB,AaC,AaA,F4]
  and_intros <;> first | exact GK g | apply r | omega | (simp [-List.reduceReplicate,AaB,AaC,AaA,maxLen,F4] <;> omega)
  refine WJ [(0,Lw v0),(2,Lw v2),(7,.slc 0 0 1 v12.length true),(9,Iz v11),(61,.bool (decide (v11<64)))] [(0,.cells (List.map (AV.int .u32) v12))] 1 (by simp [-List.reduceReplicate,AaB,AaC,AaA,F4]) ?_;rcases IFo hF with ⟨h18,hF⟩|⟨h18,hF⟩
  ·have h18_:=h18;try simp [-List.reduceReplicate] at h18_
   have F5:=A3 F4 h18 h18_;refine CT (by simp [-List.reduceReplicate,AaB,AaC,AaA,F5] <;> omega) ?_;refine AW.skip (hK6 _ _ _ ?_);refine AW.seq fun K7 hK7=>?_;refine AW.block ?_;refine SQ [] N21 fun _ _ g r=>?_;obtain ⟨⟨h19,h20⟩,hF⟩:=AaP hF;have h20_:=Aa8 h20;obtain ⟨v13,h21,h22,h23,hF⟩:=Aai hF;have h23_:=AbA h23;try simp [-List.reduceReplicate] at h23_
   have h22_:=h22;try simp [-List.reduceReplicate] at h22_
   have F6:=A9 F5 h19 h20 h20_ h21 h22 h23 h23_ h22_;try simp [-List.reduceReplicate,AaB,AaC,AaA,F6]
   and_intros
   try any_goals first | omega | (simp [-List.reduceReplicate,AaB,AaC,AaA,maxLen,F6] <;> omega)
   obtain ⟨v14,h24,hF⟩:=AaG hF;refine AC (AcE k _ _ _ h24) (.cons (.same (by simp [-List.reduceReplicate,AaB,AaC,AaA,F6])) (.cons (.same (by simp [-List.reduceReplicate,AaB,AaC,AaA,F6])) .nil)) ?_;obtain ⟨⟨h25,h26⟩,hF⟩:=AaP hF;have h26_:=Aa8 h26;have F7:=A4 F6 h25 h26 h26_;try simp [-List.reduceReplicate,AaB,AaC,AaA,F7]
   and_intros
   try any_goals first | omega | (simp [-List.reduceReplicate,AaB,AaC,AaA,maxLen,F7] <;> omega)
   obtain ⟨v15,h27,hF⟩:=AaG hF;refine AC (AcE k _ _ _ h27) (.cons (.same (by simp [-List.reduceReplicate,AaB,AaC,AaA,F7])) (.cons (.same (by simp [-List.reduceReplicate,AaB,AaC,AaA,F7])) .nil)) ?_;obtain ⟨⟨h28,h29⟩,hF⟩:=AaP hF;have h29_:=Aa8 h29;have F8:=A4 F7 h28 h29 h29_;try simp [-List.reduceReplicate,AaB,AaC,AaA,F8]
   and_intros <;> first | exact GK g | apply r | omega | (simp [-List.reduceReplicate,AaB,AaC,AaA,maxLen,F8] <;> omega)
   refine WJ [(0,Lw v0),(2,Lw v2),(7,.slc 0 0 1 v12.length true),(9,Iz v11),(10,.int .u32 (AaK .xor .u32 (AaK .xor .u32 v14 v15) (Int.fdiv v13 (2 ^ (3)))))] [(0,.cells (List.map (AV.int .u32) v12))] 1 (by simp [-List.reduceReplicate,AaB,AaC,AaA,F8]) ?_;refine SQ [] N21 fun _ _ g r=>?_;obtain ⟨⟨h30,h31⟩,hF⟩:=AaP hF;have h31_:=Aa8 h31;obtain ⟨v16,h32,h33,h34,hF⟩:=Aai hF;have h34_:=AbA h34;try simp [-List.reduceReplicate] at h34_
   have h33_:=h33;try simp [-List.reduceReplicate] at h33_
   have F9:=A9 F8 h30 h31 h31_ h32 h33 h34 h34_ h33_;try simp [-List.reduceReplicate,AaB,AaC,AaA,F9]
   and_intros
   try any_goals first | omega | (simp [-List.reduceReplicate,AaB,AaC,AaA,maxLen,F9] <;> omega)
   obtain ⟨v17,h35,hF⟩:=AaG hF;refine AC (AcE k _ _ _ h35) (.cons (.same (by simp [-List.reduceReplicate,AaB,AaC,AaA,F9])) (.cons (.same (by simp [-List.reduceReplicate,AaB,AaC,AaA,F9])) .nil)) ?_;obtain ⟨⟨h36,h37⟩,hF⟩:=AaP hF;have h37_:=Aa8 h37;have F10:=A4 F9 h36 h37 h37_;try simp [-List.reduceReplicate,AaB,AaC,AaA,F10]
   and_intros
   try any_goals first | omega | (simp [-List.reduceReplicate,AaB,AaC,AaA,maxLen,F10] <;> omega)
   obtain ⟨v18,h38,hF⟩:=AaG hF;refine AC (AcE k _ _ _ h38) (.cons (.same (by simp [-List.reduceReplicate,AaB,AaC,AaA,F10])) (.cons (.same (by simp [-List.reduceReplicate,AaB,AaC,AaA,F10])) .nil)) ?_;obtain ⟨⟨h39,h40⟩,hF⟩:=AaP hF;have h40_:=Aa8 h40;have F11:=A4 F10 h39 h40 h40_;try simp [-List.reduceReplicate,AaB,AaC,AaA,F11]
   and_intros <;> first | exact GK g | apply r | omega | (simp [-List.reduceReplicate,AaB,AaC,AaA,maxLen,F11] <;> omega)
   refine WJ [(0,Lw v0),(2,Lw v2),(7,.slc 0 0 1 v12.length true),(9,Iz v11),(10,.int .u32 (AaK .xor .u32 (AaK .xor .u32 v14 v15) (Int.fdiv v13 (2 ^ (3))))),(11,.int .u32 (AaK .xor .u32 (AaK .xor .u32 v17 v18) (Int.fdiv v16 (2 ^ (10)))))] [(0,.cells (List.map (AV.int .u32) v12))] 1 (by simp [-List.reduceReplicate,AaB,AaC,AaA,F11]) ?_;refine RG [] N19 fun _ _ g r=>?_;obtain ⟨⟨h41,h42⟩,hF⟩:=AaP hF;have h42_:=Aa8 h42;obtain ⟨v19,h43,h44,h45,hF⟩:=Aai hF;have h45_:=AbA h45;try simp [-List.reduceReplicate] at h45_
   have h44_:=h44;try simp [-List.reduceReplicate] at h44_
   obtain ⟨⟨h46,h47⟩,hF⟩:=AaP hF;have h47_:=Aa8 h47;obtain ⟨v20,h48,h49,h50,hF⟩:=Aai hF;have h50_:=AbA h50;try simp [-List.reduceReplicate] at h50_
   have h49_:=h49;try simp [-List.reduceReplicate] at h49_
   obtain ⟨⟨h51,h52⟩,hF⟩:=AaP hF;have h52_:=Aa8 h52;have F12:=A9 F11 h41 h42 h42_ h43 h44 h45 h45_ (A9 h44_ h46 h47 h47_ h48 h49 h50 h50_ (A4 h49_ h51 h52 h52_));try simp [-List.reduceReplicate,AaB,AaC,AaA,F12]
   and_intros <;> first | exact GK g | apply r | omega | (simp [-List.reduceReplicate,AaB,AaC,AaA,maxLen,F12] <;> omega)
   refine hK7 _ _ _ ?_;refine WJ [(0,Lw v0),(2,Lw v2),(7,.slc 0 0 1 ((v12.set (v11).toNat (IntKind.wrap .u32 (IntKind.wrap .u32 (IntKind.wrap .u32 (v19+AaK .xor .u32 (AaK .xor .u32 v14 v15) (Int.fdiv v13 (2 ^ (3))))+v20)+AaK .xor .u32 (AaK .xor .u32 v17 v18) (Int.fdiv v16 (2 ^ (10)))))).length) true),(9,Iz v11)] [(0,.cells (List.map (AV.int .u32) (v12.set (v11).toNat (IntKind.wrap .u32 (IntKind.wrap .u32 (IntKind.wrap .u32 (v19+AaK .xor .u32 (AaK .xor .u32 v14 v15) (Int.fdiv v13 (2 ^ (3))))+v20)+AaK .xor .u32 (AaK .xor .u32 v17 v18) (Int.fdiv v16 (2 ^ (10))))))))] 1 (by simp [-List.reduceReplicate,AaB,AaC,AaA,F12]) ?_;refine RG [] N3 fun _ _ g r=>?_;try simp [-List.reduceReplicate,AaB,AaC,AaA,F12]
   and_intros <;> first | exact GK g | apply r | omega | (simp [-List.reduceReplicate,AaB,AaC,AaA,maxLen,F12] <;> omega)
   refine hK5 _ _ _ ?_;exact NX (k':=n2) ((IntKind.wrap .i64 (v11+1),v12.set (v11).toNat (IntKind.wrap .u32 (IntKind.wrap .u32 (IntKind.wrap .u32 (v19+AaK .xor .u32 (AaK .xor .u32 v14 v15) (Int.fdiv v13 (2 ^ (3))))+v20)+AaK .xor .u32 (AaK .xor .u32 v17 v18) (Int.fdiv v16 (2 ^ (10))))))) hF (by simp [-List.reduceReplicate,AaB,AaC,AaA,F12]) (by simp [-List.reduceReplicate,AaB,AaC,AaA,F12])
  ·have h18_:=h18;try simp [-List.reduceReplicate] at h18_
   have F13:=A3 F4 h18 h18_;refine CF (by simp [-List.reduceReplicate,AaB,AaC,AaA,F13] <;> omega) ?_;refine AW.exit ?_;try simp [-List.reduceReplicate]
   refine hK4 _ _ _ ?_;refine WJ [(0,Lw v0),(2,Lw v2),(7,.slc 0 0 1 v12.length true)] [(0,.cells (List.map (AV.int .u32) v12))] 1 (by simp [-List.reduceReplicate,AaB,AaC,AaA,F13]) ?_;refine AW.frz 0 (o := .cells (List.map (AV.int .u32) v12)) (by simp [-List.reduceReplicate,AaB,AaC,AaA,F13]) rfl [(7,.lst false true (List.map (AV.int .u32) v12))] [] ⟨(.l (by simp) (by simp) (by simp) (by simp)),trivial⟩ trivial ?_;refine WJ [(0,Lw v0),(2,Lw v2),(7,.lst false true (List.map (AV.int .u32) v12))] [] 1 (by simp [-List.reduceReplicate,AaB,AaC,AaA,F13]) ?_;refine SQ [123] N3 fun _ _ g r=>?_;obtain ⟨h53,hF⟩:=AaP hF;have h53_:=h53;try simp [-List.reduceReplicate] at h53_
   have F14:=A2 F13 h53;try simp [-List.reduceReplicate,AaB,AaC,AaA,F14]
   and_intros <;> first | exact GK g | apply r | omega | (simp [-List.reduceReplicate,AaB,AaC,AaA,maxLen,F14] <;> omega)
   refine WJ [(0,Lw v0),(2,Lw v2),(7,.lst false true (List.map (AV.int .u32) v12)),(12,Sc 1 v0)] [(1,.grow (List.map (AV.int .u32) v0))] 2 (by simp [-List.reduceReplicate,AaB,AaC,AaA,F14]) ?_;refine AW.seq fun K8 hK8=>?_;refine SQ [] [none] fun _ _ g r=>?_;try simp [-List.reduceReplicate,AaB,AaC,AaA,F14]
   and_intros <;> first | exact GK g | apply r | omega | (simp [-List.reduceReplicate,AaB,AaC,AaA,maxLen,F14] <;> omega)
   refine WJ [(0,Lw v0),(2,Lw v2),(7,.lst false true (List.map (AV.int .u32) v12)),(12,Sc 1 v0),(13,Iz 0)] [(1,.grow (List.map (AV.int .u32) v0))] 2 (by simp [-List.reduceReplicate,AaB,AaC,AaA,F14]) ?_;refine AW.block ?_;refine RM h0 [(0,1)] [(0,Lw v0),(2,Lw v2),(7,.lst false true (List.map (AV.int .u32) v12)),(12,Sc 0 v0),(13,Iz 0)] [(0,.grow (List.map (AV.int .u32) v0))] 1 (by simp [-List.reduceReplicate,AaB,AaC,AaA,F14]) (by simp [-List.reduceReplicate,AaB,AaC,AaA,F14]) ?_;refine AW.loopF (α:=(Int×(List Int))) (fun n (v21,v22)=>Aad.L3 k v0 v2 v12 n v21 v22=some v3) (fun (v21,v22)=>[(0,Lw v0),(2,Lw v2),(7,.lst false true (List.map (AV.int .u32) v12)),(12,Sc 0 v22),(13,Iz v21)]) (fun (v21,v22)=>[(0,.grow (List.map (AV.int .u32) v22))]) 1 k ((0,v0)) hF (by simp [-List.reduceReplicate,AaB,AaC,AaA,F14]) (by simp [-List.reduceReplicate,AaB,AaC,AaA,F14]) (by simp) ?_;rintro (_|n3) ⟨v21,v22⟩ hF K9 hK9
   ·try dsimp only at hF
    rw [Aad.L3] at hF; cases hF
   try dsimp only at hF
   rw [Aad.L3] at hF;refine AW.seq fun K10 hK10=>?_;refine SQ [] N2 fun _ _ g r=>?_;try simp [-List.reduceReplicate,AaB,AaC,AaA,F14]
   and_intros <;> first | exact GK g | apply r | omega | (simp [-List.reduceReplicate,AaB,AaC,AaA,maxLen,F14] <;> omega)
   refine WJ [(0,Lw v0),(2,Lw v2),(7,.lst false true (List.map (AV.int .u32) v12)),(12,Sc 0 v22),(13,Iz v21),(125,.bool (decide (v21<64)))] [(0,.grow (List.map (AV.int .u32) v22))] 1 (by simp [-List.reduceReplicate,AaB,AaC,AaA,F14]) ?_;rcases IFo hF with ⟨h54,hF⟩|⟨h54,hF⟩
   ·have h54_:=h54;try simp [-List.reduceReplicate] at h54_
    have F15:=A3 F14 h54 h54_;refine CT (by simp [-List.reduceReplicate,AaB,AaC,AaA,F15] <;> omega) ?_;refine AW.skip (hK10 _ _ _ ?_);refine WJ [(0,Lw v0),(2,Lw v2),(7,.lst false true (List.map (AV.int .u32) v12)),(12,Sc 0 v22),(13,Iz v21)] [(0,.grow (List.map (AV.int .u32) v22))] 1 (by simp [-List.reduceReplicate,AaB,AaC,AaA,F15]) ?_;refine AW.frz 0 (o := .grow (List.map (AV.int .u32) v22)) (by simp [-List.reduceReplicate,AaB,AaC,AaA,F15]) rfl [(12,Lw v22)] [] ⟨(.l (by simp) (by simp) (by simp) (by simp)),trivial⟩ trivial ?_;refine WJ [(0,Lw v0),(2,Lw v2),(7,.lst false true (List.map (AV.int .u32) v12)),(12,Lw v22),(13,Iz v21)] [] 1 (by simp [-List.reduceReplicate,AaB,AaC,AaA,F15]) ?_;refine AW.seq fun K11 hK11=>?_;refine AW.block ?_;refine SQ [] N15 fun _ _ g r=>?_;obtain ⟨v23,h55,h56,h57,hF⟩:=Aai hF;have h57_:=AbA h57;try simp [-List.reduceReplicate] at h57_
    have h56_:=h56;try simp [-List.reduceReplicate] at h56_
    have F16:=A6 F15 h55 h56 h57 h57_ h56_;try simp [-List.reduceReplicate,AaB,AaC,AaA,F16]
    and_intros
    try any_goals first | omega | (simp [-List.reduceReplicate,AaB,AaC,AaA,maxLen,F16] <;> omega)
    obtain ⟨v24,h58,hF⟩:=AaG hF;refine AC (AcE k _ _ _ h58) (.cons (.same (by simp [-List.reduceReplicate,AaB,AaC,AaA,F16])) (.cons (.same (by simp [-List.reduceReplicate,AaB,AaC,AaA,F16])) .nil)) ?_;try simp [-List.reduceReplicate,AaB,AaC,AaA,F16]
    and_intros
    try any_goals first | omega | (simp [-List.reduceReplicate,AaB,AaC,AaA,maxLen,F16] <;> omega)
    obtain ⟨v25,h59,hF⟩:=AaG hF;refine AC (AcE k _ _ _ h59) (.cons (.same (by simp [-List.reduceReplicate,AaB,AaC,AaA,F16])) (.cons (.same (by simp [-List.reduceReplicate,AaB,AaC,AaA,F16])) .nil)) ?_;try simp [-List.reduceReplicate,AaB,AaC,AaA,F16]
    and_intros
    try any_goals first | omega | (simp [-List.reduceReplicate,AaB,AaC,AaA,maxLen,F16] <;> omega)
    obtain ⟨v26,h60,hF⟩:=AaG hF;refine AC (AcE k _ _ _ h60) (.cons (.same (by simp [-List.reduceReplicate,AaB,AaC,AaA,F16])) (.cons (.same (by simp [-List.reduceReplicate,AaB,AaC,AaA,F16])) .nil)) ?_;try simp [-List.reduceReplicate,AaB,AaC,AaA,F16]
    and_intros <;> first | exact GK g | apply r | omega | (simp [-List.reduceReplicate,AaB,AaC,AaA,maxLen,F16] <;> omega)
    refine WJ [(0,Lw v0),(2,Lw v2),(7,.lst false true (List.map (AV.int .u32) v12)),(12,Lw v22),(13,Iz v21),(14,.int .u32 (AaK .xor .u32 (AaK .xor .u32 v24 v25) v26))] [] 1 (by simp [-List.reduceReplicate,AaB,AaC,AaA,F16]) ?_;refine SQ [] N17 fun _ _ g r=>?_;obtain ⟨v27,h61,h62,h63,hF⟩:=Aai hF;have h63_:=AbA h63;try simp [-List.reduceReplicate] at h63_
    have h62_:=h62;try simp [-List.reduceReplicate] at h62_
    obtain ⟨v28,h64,h65,h66,hF⟩:=Aai hF;have h66_:=AbA h66;try simp [-List.reduceReplicate] at h66_
    have h65_:=h65;try simp [-List.reduceReplicate] at h65_
    have F17:=A9 F16 h61 h62 h63 h63_ h62_ h64 h65 (A3 h66 h66_ h65_);try simp [-List.reduceReplicate,AaB,AaC,AaA,F17]
    and_intros <;> first | exact GK g | apply r | omega | (simp [-List.reduceReplicate,AaB,AaC,AaA,maxLen,F17] <;> omega)
    refine WJ [(0,Lw v0),(2,Lw v2),(7,.lst false true (List.map (AV.int .u32) v12)),(12,Lw v22),(13,Iz v21),(14,.int .u32 (AaK .xor .u32 (AaK .xor .u32 v24 v25) v26)),(15,.int .u32 (AaK .xor .u32 (AaK .and .u32 v23 v27) (AaK .and .u32 (AaK .xor .u32 (IntKind.max .u32) v23) v28)))] [] 1 (by simp [-List.reduceReplicate,AaB,AaC,AaA,F17]) ?_;refine SQ [] N18 fun _ _ g r=>?_;obtain ⟨v29,h67,h68,h69,hF⟩:=Aai hF;have h69_:=AbA h69;try simp [-List.reduceReplicate] at h69_
    have h68_:=h68;try simp [-List.reduceReplicate] at h68_
    obtain ⟨v30,h70,h71,h72,hF⟩:=Aai hF;have h72_:=AbA h72;try simp [-List.reduceReplicate] at h72_
    have h71_:=h71;try simp [-List.reduceReplicate] at h71_
    obtain ⟨v31,h73,h74,h75,hF⟩:=Aai hF;have h75_:=AbA h75;try simp [-List.reduceReplicate] at h75_
    have h74_:=h74;try simp [-List.reduceReplicate] at h74_
    have F18:=A9 F17 h67 h68 h69 h69_ h68_ h70 h71 (A8 h72 h72_ h71_ h73 h74 h75 h75_ h74_);try simp [-List.reduceReplicate,AaB,AaC,AaA,F18]
    and_intros <;> first | exact GK g | apply r | omega | (simp [-List.reduceReplicate,AaB,AaC,AaA,maxLen,F18] <;> omega)
    refine WJ [(0,Lw v0),(2,Lw v2),(7,.lst false true (List.map (AV.int .u32) v12)),(12,Lw v22),(13,Iz v21),(16,.int .u32 (IntKind.wrap .u32 (IntKind.wrap .u32 (IntKind.wrap .u32 (IntKind.wrap .u32 (v29+AaK .xor .u32 (AaK .xor .u32 v24 v25) v26)+AaK .xor .u32 (AaK .and .u32 v23 v27) (AaK .and .u32 (AaK .xor .u32 (IntKind.max .u32) v23) v28))+v30)+v31)))] [] 1 (by simp [-List.reduceReplicate,AaB,AaC,AaA,F18]) ?_;refine SQ [] N15 fun _ _ g r=>?_;obtain ⟨v32,h76,h77,h78,hF⟩:=Aai hF;have h78_:=AbA h78;try simp [-List.reduceReplicate] at h78_
    have h77_:=h77;try simp [-List.reduceReplicate] at h77_
    have h78z:=Amc h78;have F19:=A7 F18 h76 h77 h78 h78_ h77_ h78z;try simp [-List.reduceReplicate,AaB,AaC,AaA,F19]
    and_intros
    try any_goals first | omega | (simp [-List.reduceReplicate,AaB,AaC,AaA,maxLen,F19] <;> omega)
    obtain ⟨v33,h79,hF⟩:=AaG hF;refine AC (AcE k _ _ _ h79) (.cons (.same (by simp [-List.reduceReplicate,AaB,AaC,AaA,F19])) (.cons (.same (by simp [-List.reduceReplicate,AaB,AaC,AaA,F19])) .nil)) ?_;try simp [-List.reduceReplicate,AaB,AaC,AaA,F19]
    and_intros
    try any_goals first | omega | (simp [-List.reduceReplicate,AaB,AaC,AaA,maxLen,F19] <;> omega)
    obtain ⟨v34,h80,hF⟩:=AaG hF;refine AC (AcE k _ _ _ h80) (.cons (.same (by simp [-List.reduceReplicate,AaB,AaC,AaA,F19])) (.cons (.same (by simp [-List.reduceReplicate,AaB,AaC,AaA,F19])) .nil)) ?_;try simp [-List.reduceReplicate,AaB,AaC,AaA,F19]
    and_intros
    try any_goals first | omega | (simp [-List.reduceReplicate,AaB,AaC,AaA,maxLen,F19] <;> omega)
    obtain ⟨v35,h81,hF⟩:=AaG hF;refine AC (AcE k _ _ _ h81) (.cons (.same (by simp [-List.reduceReplicate,AaB,AaC,AaA,F19])) (.cons (.same (by simp [-List.reduceReplicate,AaB,AaC,AaA,F19])) .nil)) ?_;try simp [-List.reduceReplicate,AaB,AaC,AaA,F19]
    and_intros <;> first | exact GK g | apply r | omega | (simp [-List.reduceReplicate,AaB,AaC,AaA,maxLen,F19] <;> omega)
    refine WJ [(0,Lw v0),(2,Lw v2),(7,.lst false true (List.map (AV.int .u32) v12)),(12,Lw v22),(13,Iz v21),(14,.int .u32 (AaK .xor .u32 (AaK .xor .u32 v33 v34) v35)),(16,.int .u32 (IntKind.wrap .u32 (IntKind.wrap .u32 (IntKind.wrap .u32 (IntKind.wrap .u32 (v29+AaK .xor .u32 (AaK .xor .u32 v24 v25) v26)+AaK .xor .u32 (AaK .and .u32 v23 v27) (AaK .and .u32 (AaK .xor .u32 (IntKind.max .u32) v23) v28))+v30)+v31)))] [] 1 (by simp [-List.reduceReplicate,AaB,AaC,AaA,F19]) ?_;refine SQ [] N24 fun _ _ g r=>?_;obtain ⟨v36,h82,h83,h84,hF⟩:=Aai hF;have h84_:=AbA h84;try simp [-List.reduceReplicate] at h84_
    have h83_:=h83;try simp [-List.reduceReplicate] at h83_
    obtain ⟨v37,h85,h86,h87,hF⟩:=Aai hF;have h87_:=AbA h87;try simp [-List.reduceReplicate] at h87_
    have h86_:=h86;try simp [-List.reduceReplicate] at h86_
    have F20:=A9 F19 h82 h83 h84 h84_ h83_ h85 h86 (A3 h87 h87_ h86_);try simp [-List.reduceReplicate,AaB,AaC,AaA,F20]
    and_intros <;> first | exact GK g | apply r | omega | (simp [-List.reduceReplicate,AaB,AaC,AaA,maxLen,F20] <;> omega)
    refine WJ [(0,Lw v0),(2,Lw v2),(7,.lst false true (List.map (AV.int .u32) v12)),(12,Lw v22),(13,Iz v21),(14,.int .u32 (AaK .xor .u32 (AaK .xor .u32 v33 v34) v35)),(16,.int .u32 (IntKind.wrap .u32 (IntKind.wrap .u32 (IntKind.wrap .u32 (IntKind.wrap .u32 (v29+AaK .xor .u32 (AaK .xor .u32 v24 v25) v26)+AaK .xor .u32 (AaK .and .u32 v23 v27) (AaK .and .u32 (AaK .xor .u32 (IntKind.max .u32) v23) v28))+v30)+v31))),(17,.int .u32 (AaK .xor .u32 (AaK .xor .u32 (AaK .and .u32 v32 v36) (AaK .and .u32 v32 v37)) (AaK .and .u32 v36 v37)))] [] 1 (by simp [-List.reduceReplicate,AaB,AaC,AaA,F20]) ?_;refine RG [240] N30 fun _ _ g r=>?_;obtain ⟨v38,h88,h89,h90,hF⟩:=Aai hF;have h90_:=AbA h90;try simp [-List.reduceReplicate] at h90_
    have h89_:=h89;try simp [-List.reduceReplicate] at h89_
    have F21:=A6 F20 h88 h89 h90 h90_ h89_;try simp [-List.reduceReplicate,AaB,AaC,AaA,F21]
    and_intros <;> first | exact GK g | apply r | omega | (simp [-List.reduceReplicate,AaB,AaC,AaA,maxLen,F21] <;> omega)
    refine hK11 _ _ _ ?_;refine WJ [(0,Lw v0),(2,Lw v2),(7,.lst false true (List.map (AV.int .u32) v12)),(12,.slc 1 0 1 (([IntKind.wrap .u32 (IntKind.wrap .u32 (IntKind.wrap .u32 (IntKind.wrap .u32 (IntKind.wrap .u32 (IntKind.wrap .u32 (v29+AaK .xor .u32 (AaK .xor .u32 v24 v25) v26)+AaK .xor .u32 (AaK .and .u32 v23 v27) (AaK .and .u32 (AaK .xor .u32 (IntKind.max .u32) v23) v28))+v30)+v31)+AaK .xor .u32 (AaK .xor .u32 v33 v34) v35)+AaK .xor .u32 (AaK .xor .u32 (AaK .and .u32 v32 v36) (AaK .and .u32 v32 v37)) (AaK .and .u32 v36 v37)),v32,v36,v37,IntKind.wrap .u32 (v38+IntKind.wrap .u32 (IntKind.wrap .u32 (IntKind.wrap .u32 (IntKind.wrap .u32 (v29+AaK .xor .u32 (AaK .xor .u32 v24 v25) v26)+AaK .xor .u32 (AaK .and .u32 v23 v27) (AaK .and .u32 (AaK .xor .u32 (IntKind.max .u32) v23) v28))+v30)+v31)),v23,v27,v28] : List Int).length) true),(13,Iz v21)] [(1,.cells (List.map (AV.int .u32) ([IntKind.wrap .u32 (IntKind.wrap .u32 (IntKind.wrap .u32 (IntKind.wrap .u32 (IntKind.wrap .u32 (IntKind.wrap .u32 (v29+AaK .xor .u32 (AaK .xor .u32 v24 v25) v26)+AaK .xor .u32 (AaK .and .u32 v23 v27) (AaK .and .u32 (AaK .xor .u32 (IntKind.max .u32) v23) v28))+v30)+v31)+AaK .xor .u32 (AaK .xor .u32 v33 v34) v35)+AaK .xor .u32 (AaK .xor .u32 (AaK .and .u32 v32 v36) (AaK .and .u32 v32 v37)) (AaK .and .u32 v36 v37)),v32,v36,v37,IntKind.wrap .u32 (v38+IntKind.wrap .u32 (IntKind.wrap .u32 (IntKind.wrap .u32 (IntKind.wrap .u32 (v29+AaK .xor .u32 (AaK .xor .u32 v24 v25) v26)+AaK .xor .u32 (AaK .and .u32 v23 v27) (AaK .and .u32 (AaK .xor .u32 (IntKind.max .u32) v23) v28))+v30)+v31)),v23,v27,v28] : List Int)))] 2 (by simp [-List.reduceReplicate,AaB,AaC,AaA,F21]) ?_;refine RG [] N3 fun _ _ g r=>?_;try simp [-List.reduceReplicate,AaB,AaC,AaA,F21]
    and_intros <;> first | exact GK g | apply r | omega | (simp [-List.reduceReplicate,AaB,AaC,AaA,maxLen,F21] <;> omega)
    refine hK9 _ _ _ ?_;refine RN h0 [(0,1)] [(0,Lw v0),(2,Lw v2),(7,.lst false true (List.map (AV.int .u32) v12)),(12,.slc 0 0 1 (([IntKind.wrap .u32 (IntKind.wrap .u32 (IntKind.wrap .u32 (IntKind.wrap .u32 (IntKind.wrap .u32 (IntKind.wrap .u32 (v29+AaK .xor .u32 (AaK .xor .u32 v24 v25) v26)+AaK .xor .u32 (AaK .and .u32 v23 v27) (AaK .and .u32 (AaK .xor .u32 (IntKind.max .u32) v23) v28))+v30)+v31)+AaK .xor .u32 (AaK .xor .u32 v33 v34) v35)+AaK .xor .u32 (AaK .xor .u32 (AaK .and .u32 v32 v36) (AaK .and .u32 v32 v37)) (AaK .and .u32 v36 v37)),v32,v36,v37,IntKind.wrap .u32 (v38+IntKind.wrap .u32 (IntKind.wrap .u32 (IntKind.wrap .u32 (IntKind.wrap .u32 (v29+AaK .xor .u32 (AaK .xor .u32 v24 v25) v26)+AaK .xor .u32 (AaK .and .u32 v23 v27) (AaK .and .u32 (AaK .xor .u32 (IntKind.max .u32) v23) v28))+v30)+v31)),v23,v27,v28] : List Int).length) true),(13,Iz (IntKind.wrap .i64 (v21+1)))] [(0,.cells (List.map (AV.int .u32) ([IntKind.wrap .u32 (IntKind.wrap .u32 (IntKind.wrap .u32 (IntKind.wrap .u32 (IntKind.wrap .u32 (IntKind.wrap .u32 (v29+AaK .xor .u32 (AaK .xor .u32 v24 v25) v26)+AaK .xor .u32 (AaK .and .u32 v23 v27) (AaK .and .u32 (AaK .xor .u32 (IntKind.max .u32) v23) v28))+v30)+v31)+AaK .xor .u32 (AaK .xor .u32 v33 v34) v35)+AaK .xor .u32 (AaK .xor .u32 (AaK .and .u32 v32 v36) (AaK .and .u32 v32 v37)) (AaK .and .u32 v36 v37)),v32,v36,v37,IntKind.wrap .u32 (v38+IntKind.wrap .u32 (IntKind.wrap .u32 (IntKind.wrap .u32 (IntKind.wrap .u32 (v29+AaK .xor .u32 (AaK .xor .u32 v24 v25) v26)+AaK .xor .u32 (AaK .and .u32 v23 v27) (AaK .and .u32 (AaK .xor .u32 (IntKind.max .u32) v23) v28))+v30)+v31)),v23,v27,v28] : List Int)))] 1 (by simp [-List.reduceReplicate,AaB,AaC,AaA,F21]) (by simp [-List.reduceReplicate,AaB,AaC,AaA,F21]) ?_;refine Can.flg [(12,.slc 0 0 1 (([IntKind.wrap .u32 (IntKind.wrap .u32 (IntKind.wrap .u32 (IntKind.wrap .u32 (IntKind.wrap .u32 (IntKind.wrap .u32 (v29+AaK .xor .u32 (AaK .xor .u32 v24 v25) v26)+AaK .xor .u32 (AaK .and .u32 v23 v27) (AaK .and .u32 (AaK .xor .u32 (IntKind.max .u32) v23) v28))+v30)+v31)+AaK .xor .u32 (AaK .xor .u32 v33 v34) v35)+AaK .xor .u32 (AaK .xor .u32 (AaK .and .u32 v32 v36) (AaK .and .u32 v32 v37)) (AaK .and .u32 v36 v37)),v32,v36,v37,IntKind.wrap .u32 (v38+IntKind.wrap .u32 (IntKind.wrap .u32 (IntKind.wrap .u32 (IntKind.wrap .u32 (v29+AaK .xor .u32 (AaK .xor .u32 v24 v25) v26)+AaK .xor .u32 (AaK .and .u32 v23 v27) (AaK .and .u32 (AaK .xor .u32 (IntKind.max .u32) v23) v28))+v30)+v31)),v23,v27,v28] : List Int).length) false)] [(0,.grow (List.map (AV.int .u32) ([IntKind.wrap .u32 (IntKind.wrap .u32 (IntKind.wrap .u32 (IntKind.wrap .u32 (IntKind.wrap .u32 (IntKind.wrap .u32 (v29+AaK .xor .u32 (AaK .xor .u32 v24 v25) v26)+AaK .xor .u32 (AaK .and .u32 v23 v27) (AaK .and .u32 (AaK .xor .u32 (IntKind.max .u32) v23) v28))+v30)+v31)+AaK .xor .u32 (AaK .xor .u32 v33 v34) v35)+AaK .xor .u32 (AaK .xor .u32 (AaK .and .u32 v32 v36) (AaK .and .u32 v32 v37)) (AaK .and .u32 v36 v37)),v32,v36,v37,IntKind.wrap .u32 (v38+IntKind.wrap .u32 (IntKind.wrap .u32 (IntKind.wrap .u32 (IntKind.wrap .u32 (v29+AaK .xor .u32 (AaK .xor .u32 v24 v25) v26)+AaK .xor .u32 (AaK .and .u32 v23 v27) (AaK .and .u32 (AaK .xor .u32 (IntKind.max .u32) v23) v28))+v30)+v31)),v23,v27,v28] : List Int)))] ⟨.slc,trivial⟩ ⟨⟨Aan.cells (List.map (AV.int .u32) ([IntKind.wrap .u32 (IntKind.wrap .u32 (IntKind.wrap .u32 (IntKind.wrap .u32 (IntKind.wrap .u32 (IntKind.wrap .u32 (v29+AaK .xor .u32 (AaK .xor .u32 v24 v25) v26)+AaK .xor .u32 (AaK .and .u32 v23 v27) (AaK .and .u32 (AaK .xor .u32 (IntKind.max .u32) v23) v28))+v30)+v31)+AaK .xor .u32 (AaK .xor .u32 v33 v34) v35)+AaK .xor .u32 (AaK .xor .u32 (AaK .and .u32 v32 v36) (AaK .and .u32 v32 v37)) (AaK .and .u32 v36 v37)),v32,v36,v37,IntKind.wrap .u32 (v38+IntKind.wrap .u32 (IntKind.wrap .u32 (IntKind.wrap .u32 (IntKind.wrap .u32 (v29+AaK .xor .u32 (AaK .xor .u32 v24 v25) v26)+AaK .xor .u32 (AaK .and .u32 v23 v27) (AaK .and .u32 (AaK .xor .u32 (IntKind.max .u32) v23) v28))+v30)+v31)),v23,v27,v28] : List Int)),by simp [-List.reduceReplicate,AaB,AaC,AaA,F21],(.gr (by simp [-List.reduceReplicate,AaB,AaC,AaA,F21]))⟩,trivial⟩ (by simp) ?_;exact NX (k':=n3) ((IntKind.wrap .i64 (v21+1),([IntKind.wrap .u32 (IntKind.wrap .u32 (IntKind.wrap .u32 (IntKind.wrap .u32 (IntKind.wrap .u32 (IntKind.wrap .u32 (v29+AaK .xor .u32 (AaK .xor .u32 v24 v25) v26)+AaK .xor .u32 (AaK .and .u32 v23 v27) (AaK .and .u32 (AaK .xor .u32 (IntKind.max .u32) v23) v28))+v30)+v31)+AaK .xor .u32 (AaK .xor .u32 v33 v34) v35)+AaK .xor .u32 (AaK .xor .u32 (AaK .and .u32 v32 v36) (AaK .and .u32 v32 v37)) (AaK .and .u32 v36 v37)),v32,v36,v37,IntKind.wrap .u32 (v38+IntKind.wrap .u32 (IntKind.wrap .u32 (IntKind.wrap .u32 (IntKind.wrap .u32 (v29+AaK .xor .u32 (AaK .xor .u32 v24 v25) v26)+AaK .xor .u32 (AaK .and .u32 v23 v27) (AaK .and .u32 (AaK .xor .u32 (IntKind.max .u32) v23) v28))+v30)+v31)),v23,v27,v28] : List Int))) hF (by simp [-List.reduceReplicate,AaB,AaC,AaA,F21]) (by simp [-List.reduceReplicate,AaB,AaC,AaA,F21])
   ·have h54_:=h54;try simp [-List.reduceReplicate] at h54_
    have F22:=A3 F14 h54 h54_;refine CF (by simp [-List.reduceReplicate,AaB,AaC,AaA,F22] <;> omega) ?_;refine AW.exit ?_;try simp [-List.reduceReplicate]
    refine hK8 _ _ _ ?_;refine AW.seq fun K12 hK12=>?_;refine SQ [] [none] fun _ _ g r=>?_;try simp [-List.reduceReplicate,AaB,AaC,AaA,F22]
    and_intros <;> first | exact GK g | apply r | omega | (simp [-List.reduceReplicate,AaB,AaC,AaA,maxLen,F22] <;> omega)
    refine WJ [(0,Lw v0),(12,Sc 0 v22),(18,Iz 0)] [(0,.grow (List.map (AV.int .u32) v22))] 1 (by simp [-List.reduceReplicate,AaB,AaC,AaA,F22]) ?_;refine AW.block ?_;refine AW.loopF (α:=(Int×(List Int))) (fun n (v39,v40)=>Aad.L4 k v0 n v39 v40=some v3) (fun (v39,v40)=>[(0,Lw v0),(12,Sc 0 v40),(18,Iz v39)]) (fun (v39,v40)=>[(0,.grow (List.map (AV.int .u32) v40))]) 1 k ((0,v22)) hF (by simp [-List.reduceReplicate,AaB,AaC,AaA,F22]) (by simp [-List.reduceReplicate,AaB,AaC,AaA,F22]) (by simp) ?_;rintro (_|n4) ⟨v39,v40⟩ hF K13 hK13
    ·try dsimp only at hF
     rw [Aad.L4] at hF; cases hF
    try dsimp only at hF
    rw [Aad.L4] at hF;refine AW.seq fun K14 hK14=>?_;refine SQ [] N2 fun _ _ g r=>?_;try simp [-List.reduceReplicate,AaB,AaC,AaA,F22]
    and_intros <;> first | exact GK g | apply r | omega | (simp [-List.reduceReplicate,AaB,AaC,AaA,maxLen,F22] <;> omega)
    refine WJ [(0,Lw v0),(12,Sc 0 v40),(18,Iz v39),(242,.bool (decide (v39<8)))] [(0,.grow (List.map (AV.int .u32) v40))] 1 (by simp [-List.reduceReplicate,AaB,AaC,AaA,F22]) ?_;rcases IFo hF with ⟨h91,hF⟩|⟨h91,hF⟩
    ·have h91_:=h91;try simp [-List.reduceReplicate] at h91_
     have F23:=A3 F22 h91 h91_;refine CT (by simp [-List.reduceReplicate,AaB,AaC,AaA,F23] <;> omega) ?_;refine AW.skip (hK14 _ _ _ ?_);refine AW.seq fun K15 hK15=>?_;refine AW.block ?_;refine RG [] N11 fun _ _ g r=>?_;obtain ⟨⟨h92,h93⟩,hF⟩:=AaP hF;have h93_:=Aa8 h93;obtain ⟨v41,h94,h95,h96,hF⟩:=Aai hF;have h96_:=AbA h96;try simp [-List.reduceReplicate] at h96_
     have h95_:=h95;try simp [-List.reduceReplicate] at h95_
     obtain ⟨v42,h97,h98,h99,hF⟩:=Aai hF;have h99_:=AbA h99;try simp [-List.reduceReplicate] at h99_
     have h98_:=h98;try simp [-List.reduceReplicate] at h98_
     obtain ⟨⟨h100,h101⟩,hF⟩:=AaP hF;have h101_:=Aa8 h101;have F24:=A9 F23 h92 h93 h93_ h94 h95 h96 h96_ (A9 h95_ h97 h98 h99 h99_ h98_ h100 h101 h101_);try simp [-List.reduceReplicate,AaB,AaC,AaA,F24]
     and_intros <;> first | exact GK g | apply r | omega | (simp [-List.reduceReplicate,AaB,AaC,AaA,maxLen,F24] <;> omega)
     refine hK15 _ _ _ ?_;refine WJ [(0,Lw v0),(12,.slc 0 0 1 ((v40.set (v39).toNat (IntKind.wrap .u32 (v41+v42))).length) false),(18,Iz v39)] [(0,.grow (List.map (AV.int .u32) (v40.set (v39).toNat (IntKind.wrap .u32 (v41+v42)))))] 1 (by simp [-List.reduceReplicate,AaB,AaC,AaA,F24]) ?_;refine RG [] N3 fun _ _ g r=>?_;try simp [-List.reduceReplicate,AaB,AaC,AaA,F24]
     and_intros <;> first | exact GK g | apply r | omega | (simp [-List.reduceReplicate,AaB,AaC,AaA,maxLen,F24] <;> omega)
     refine hK13 _ _ _ ?_;exact NX (k':=n4) ((IntKind.wrap .i64 (v39+1),v40.set (v39).toNat (IntKind.wrap .u32 (v41+v42)))) hF (by simp [-List.reduceReplicate,AaB,AaC,AaA,F24]) (by simp [-List.reduceReplicate,AaB,AaC,AaA,F24])
    ·have h91_:=h91;try simp [-List.reduceReplicate] at h91_
     have F25:=A3 F22 h91 h91_;refine CF (by simp [-List.reduceReplicate,AaB,AaC,AaA,F25] <;> omega) ?_;refine AW.exit ?_;try simp [-List.reduceReplicate]
     refine hK12 _ _ _ ?_;refine SQ [] N2 fun _ _ g r=>?_;try simp [-List.reduceReplicate,AaB,AaC,AaA,F25]
     and_intros <;> first | exact GK g | apply r | omega | (simp [-List.reduceReplicate,AaB,AaC,AaA,maxLen,F25] <;> omega)
     refine WJ [(6,Sc 0 v40)] [(0,.grow (List.map (AV.int .u32) v40))] 1 (by simp [-List.reduceReplicate,AaB,AaC,AaA,F25]) ?_;cases hF;exact AW.ret (hQ _ _ _ (by simp [Try.f80,F25]) (AaE (by simp [F25]))).1
theorem AkL (k : Nat) (v0 : (List Int)) (v1 : ByteArray) (hF : Aa0 k v0=some v1) :
 AbP Try.prog 46 [AV.lst false false (List.map (AV.int .u8) v0)] [] (AV.str v1) []:=by
 unfold Aa0 at hF;refine EN Try.func46 ?_;intro c0 w0 Q h0 hQ
 refine WJ [(0,Lb v0)] [] 0 (by simp) ?_;refine SW trivial [] [none] [] [] [] [] 0 ?_;refine SW trivial [] N2 [] [(3,.lst false true (List.map (AV.int .u32) ([1779033703,3144134277,1013904242,2773480762,1359893119,2600822924,528734635,1541459225] : List Int)))] [] [] 0 ?_;refine SQ [13] N5 fun _ _ g r=>?_;obtain ⟨h1,hF⟩:=AaP hF;have h1_:=h1;try simp at h1_
 obtain ⟨h2,hF⟩:=AaP hF;have h2_:=h2;try simp at h2_
 try simp [h1,h2]
 and_intros <;> first | exact GK g | apply r | omega | (simp [h1,h2,maxLen] <;> omega)
 refine WK [(0,Lb v0),(3,.lst false true (List.map (AV.int .u32) ([1779033703,3144134277,1013904242,2773480762,1359893119,2600822924,528734635,1541459225] : List Int))),(4,.slc 1 0 1 ((v0++([128] : List Int)).length) false)] [(1,.grow (List.map (AV.int .u8) (v0++([128] : List Int))))] 2 (by simp [h1,h2] <;> omega) (by simp [h1,h2]) ?_;refine AW.seq fun K0 hK0=>?_;refine AW.block ?_;refine RM h0 [(0,1)] [(0,Lb v0),(3,.lst false true (List.map (AV.int .u32) ([1779033703,3144134277,1013904242,2773480762,1359893119,2600822924,528734635,1541459225] : List Int))),(4,.slc 0 0 1 ((v0++([128] : List Int)).length) false)] [(0,.grow (List.map (AV.int .u8) (v0++([128] : List Int))))] 1 (by simp [h1,h2]) (by simp [h1,h2]) ?_;refine AW.loopF (α:=(List Int)) (fun n v2=>Aa0.L1 k v0 n v2=some v1) (fun v2=>[(0,Lb v0),(3,.lst false true (List.map (AV.int .u32) ([1779033703,3144134277,1013904242,2773480762,1359893119,2600822924,528734635,1541459225] : List Int))),(4,Sc 0 v2)]) (fun v2=>[(0,.grow (List.map (AV.int .u8) v2))]) 1 k (v0++([128] : List Int)) hF (by simp [h1,h2]) (by simp [h1,h2]) (by simp) ?_;rintro (_|n1) v2 hF K1 hK1
 ·try dsimp only at hF
  rw [Aa0.L1] at hF; cases hF
 try dsimp only at hF
 rw [Aa0.L1] at hF;refine AW.seq fun K2 hK2=>?_;refine SW (A2 h1 h2) [] N4 [] [(19,.bool ((Int.tmod (v2.length : Int) 64) !=56))] [] [] 1 ?_;rcases IFo hF with ⟨h3,hF⟩|⟨h3,hF⟩
 ·have h3_:=Aba h3;have h3__:=Abd h3;refine CT (by simp [h1,h2,h3,h3_,h3__] <;> omega) ?_;refine AW.skip (hK2 _ _ _ ?_);refine AW.block ?_;refine RG [] N4 fun _ _ g r=>?_;obtain ⟨h4,hF⟩:=AaP hF;have h4_:=h4;try simp at h4_
  have F1:=A6 h1 h2 h3 h3_ h3__ h4;try simp [F1]
  and_intros <;> first | exact GK g | apply r | omega | (simp [maxLen,F1] <;> omega)
  refine hK1 _ _ _ ?_;refine RN h0 [(0,1)] [(0,Lb v0),(3,.lst false true (List.map (AV.int .u32) ([1779033703,3144134277,1013904242,2773480762,1359893119,2600822924,528734635,1541459225] : List Int))),(4,.slc 0 0 1 ((v2++([0] : List Int)).length) false)] [(0,.grow (List.map (AV.int .u8) (v2++([0] : List Int))))] 1 (by simp [F1] <;> omega) (by simp [F1]) ?_;exact NX (k':=n1) (v2++([0] : List Int)) hF (by simp [F1]) (by simp [F1])
 ·have h3q : (Int.tmod (v2.length : Int) 64)=56:=Classical.not_not.1 h3;have h3_:=Abf h3q;have h3__:=Abe h3q;have F2:=A5 h1 h2 h3_ h3__ h3q;refine CF (by simp [F2] <;> omega) ?_;refine AW.exit ?_;try simp
  refine hK0 _ _ _ ?_;refine SW F2 [] N5 [0] [(5,.int .u64 (IntKind.wrap .u64 (IntKind.wrap .u64 (v0.length : Int)*8)))] [] [] 1 ?_;refine AW.seq fun K3 hK3=>?_;refine SW F2 [] [none] [] [(6,Iz 7)] [] [] 1 ?_;refine AW.block ?_;refine AW.loopF (α:=(Int×(List Int))) (fun n (v3,v4)=>Aa0.L2 k v0 n v3 v4=some v1) (fun (v3,v4)=>[(3,.lst false true (List.map (AV.int .u32) ([1779033703,3144134277,1013904242,2773480762,1359893119,2600822924,528734635,1541459225] : List Int))),(4,Sc 0 v4),(5,.int .u64 (IntKind.wrap .u64 (IntKind.wrap .u64 (v0.length : Int)*8))),(6,Iz v3)]) (fun (v3,v4)=>[(0,.grow (List.map (AV.int .u8) v4))]) 1 k ((7,v2)) hF (by simp [F2]) (by simp [F2]) (by simp) ?_;rintro (_|n2) ⟨v3,v4⟩ hF K4 hK4
  ·try dsimp only at hF
   rw [Aa0.L2] at hF; cases hF
  try dsimp only at hF
  rw [Aa0.L2] at hF;refine AW.seq fun K5 hK5=>?_;refine SW F2 [] N2 [] [(28,.bool (decide (0≤v3)))] [] [] 1 ?_;rcases IFo hF with ⟨h5,hF⟩|⟨h5,hF⟩
  ·have h5_:=h5;try simp at h5_
   have F3:=A3 F2 h5 h5_;refine CT (by simp [F3] <;> omega) ?_;refine AW.skip (hK5 _ _ _ ?_);refine AW.seq fun K6 hK6=>?_;refine AW.block ?_;refine RG [] N10 fun _ _ g r=>?_;obtain ⟨h6,hF⟩:=AaP hF;obtain ⟨h7,hF⟩:=AaP hF;have h7_:=h7;try simp at h7_
   have F4:=A3 F3 h6 h7;try simp [F4]
   and_intros <;> first | exact GK g | apply r | omega | (simp [maxLen,F4] <;> omega)
   refine hK6 _ _ _ ?_;refine WK [(3,.lst false true (List.map (AV.int .u32) ([1779033703,3144134277,1013904242,2773480762,1359893119,2600822924,528734635,1541459225] : List Int))),(4,.slc 1 0 1 ((v4++([IntKind.wrap .u8 (Int.fdiv (IntKind.wrap .u64 (IntKind.wrap .u64 (v0.length : Int)*8)) (2 ^ (min ((IntKind.wrap .u64 (IntKind.wrap .i64 (8*v3))).toNat) 64)))] : List Int)).length) false),(5,.int .u64 (IntKind.wrap .u64 (IntKind.wrap .u64 (v0.length : Int)*8))),(6,Iz v3)] [(1,.grow (List.map (AV.int .u8) (v4++([IntKind.wrap .u8 (Int.fdiv (IntKind.wrap .u64 (IntKind.wrap .u64 (v0.length : Int)*8)) (2 ^ (min ((IntKind.wrap .u64 (IntKind.wrap .i64 (8*v3))).toNat) 64)))] : List Int))))] 2 (by simp [F4] <;> omega) (by simp [F4]) ?_;refine RG [] N3 fun _ _ g r=>?_;try simp [F4]
   and_intros <;> first | exact GK g | apply r | omega | (simp [maxLen,F4] <;> omega)
   refine hK4 _ _ _ ?_;refine RN h0 [(0,1)] [(3,.lst false true (List.map (AV.int .u32) ([1779033703,3144134277,1013904242,2773480762,1359893119,2600822924,528734635,1541459225] : List Int))),(4,.slc 0 0 1 ((v4++([IntKind.wrap .u8 (Int.fdiv (IntKind.wrap .u64 (IntKind.wrap .u64 (v0.length : Int)*8)) (2 ^ (min ((IntKind.wrap .u64 (IntKind.wrap .i64 (8*v3))).toNat) 64)))] : List Int)).length) false),(5,.int .u64 (IntKind.wrap .u64 (IntKind.wrap .u64 (v0.length : Int)*8))),(6,Iz (IntKind.wrap .i64 (v3-1)))] [(0,.grow (List.map (AV.int .u8) (v4++([IntKind.wrap .u8 (Int.fdiv (IntKind.wrap .u64 (IntKind.wrap .u64 (v0.length : Int)*8)) (2 ^ (min ((IntKind.wrap .u64 (IntKind.wrap .i64 (8*v3))).toNat) 64)))] : List Int))))] 1 (by simp [F4] <;> omega) (by simp [F4]) ?_;exact NX (k':=n2) ((IntKind.wrap .i64 (v3-1),v4++([IntKind.wrap .u8 (Int.fdiv (IntKind.wrap .u64 (IntKind.wrap .u64 (v0.length : Int)*8)) (2 ^ (min ((IntKind.wrap .u64 (IntKind.wrap .i64 (8*v3))).toNat) 64)))] : List Int))) hF (by simp [F4]) (by simp [F4])
  ·have h5_:=h5;try simp at h5_
   have F5:=A3 F2 h5 h5_;refine CF (by simp [F5] <;> omega) ?_;refine AW.exit ?_;try simp
   refine hK3 _ _ _ ?_;refine WJ [(3,.lst false true (List.map (AV.int .u32) ([1779033703,3144134277,1013904242,2773480762,1359893119,2600822924,528734635,1541459225] : List Int))),(4,Sc 0 v4)] [(0,.grow (List.map (AV.int .u8) v4))] 1 (by simp [F5]) ?_;refine AW.frz 0 (o := .grow (List.map (AV.int .u8) v4)) (by simp [F5]) rfl [(4,Lb v4)] [] ⟨(.l (by simp) (by simp) (by simp) (by simp)),trivial⟩ trivial ?_;refine WJ [(3,.lst false true (List.map (AV.int .u32) ([1779033703,3144134277,1013904242,2773480762,1359893119,2600822924,528734635,1541459225] : List Int))),(4,Lb v4)] [] 1 (by simp [F5]) ?_;refine SR [] N2 fun _ _ g r=>?_;try simp [F5]
   and_intros
   try any_goals first | omega | (simp [maxLen,F5] <;> omega)
   obtain ⟨v5,h8,hF⟩:=AaG hF;refine AC (Aga k _ h8) .nil ?_;refine TL F5 g r [] [(7,Lw v5)] [] [] 1 ?_;refine AW.seq fun K7 hK7=>?_;refine SW F5 [] [none] [] [(8,Iz 0)] [] [] 1 ?_;refine AW.block ?_;refine RM h0 [] [(3,.lst false true (List.map (AV.int .u32) ([1779033703,3144134277,1013904242,2773480762,1359893119,2600822924,528734635,1541459225] : List Int))),(4,Lb v4),(7,Lw v5),(8,Iz 0)] [] 0 (by simp [F5]) (by simp [F5]) ?_;refine AW.flg [(3,Lw ([1779033703,3144134277,1013904242,2773480762,1359893119,2600822924,528734635,1541459225] : List Int))] [] ⟨(.lst (by simp)),trivial⟩ trivial (by simp) ?_;refine AW.loopF (α:=((List Int)×Int)) (fun n (v6,v7)=>Aa0.L3 k v4 v5 n v6 v7=some v1) (fun (v6,v7)=>[(3,Lw v6),(4,Lb v4),(7,Lw v5),(8,Iz v7)]) (fun (v6,v7)=>[]) 0 k ((([1779033703,3144134277,1013904242,2773480762,1359893119,2600822924,528734635,1541459225] : List Int),0)) hF (by simp [F5]) (by simp [F5]) (by simp) ?_;rintro (_|n3) ⟨v6,v7⟩ hF K8 hK8
   ·try dsimp only at hF
    rw [Aa0.L3] at hF; cases hF
   try dsimp only at hF
   rw [Aa0.L3] at hF;refine AW.seq fun K9 hK9=>?_;refine SW F5 [] N4 [] [(44,.bool (decide (v7<(v4.length : Int))))] [] [] 0 ?_;rcases IFo hF with ⟨h9,hF⟩|⟨h9,hF⟩
   ·have h9_:=h9;try simp at h9_
    have F6:=A3 F5 h9 h9_;refine CT (by simp [F6] <;> omega) ?_;refine AW.skip (hK9 _ _ _ ?_);refine AW.seq fun K10 hK10=>?_;refine AW.block ?_;refine RG [] N9 fun _ _ g r=>?_;obtain ⟨⟨h10,h11,h12⟩,hF⟩:=AaP hF;have h10_:=h10;try simp at h10_
    have h11_:=h11;try simp at h11_
    have h12_:=h12;try simp at h12_
    have F7:=A7 F6 h10 h11 h12 h10_ h11_ h12_;try simp [F7]
    and_intros
    try any_goals first | omega | (simp [maxLen,F7] <;> omega)
    obtain ⟨v8,h13,hF⟩:=AaG hF;refine AC (Ain k _ _ _ _ h13) (.cons (.same (by simp [F7])) (.cons (.same (by simp [F7])) (.cons (.same (by simp [F7])) .nil))) ?_;try simp [F7]
    and_intros <;> first | exact GK g | apply r | omega | (simp [maxLen,F7] <;> omega)
    refine hK10 _ _ _ ?_;refine WJ [(3,Sc 0 v8),(4,Lb v4),(7,Lw v5),(8,Iz v7)] [(0,.grow (List.map (AV.int .u32) v8))] 1 (by simp [F7]) ?_;refine AW.frz 0 (o := .grow (List.map (AV.int .u32) v8)) (by simp [F7]) rfl [(3,Lw v8)] [] ⟨(.l (by simp) (by simp) (by simp) (by simp)),trivial⟩ trivial ?_;refine WJ [(3,Lw v8),(4,Lb v4),(7,Lw v5),(8,Iz v7)] [] 1 (by simp [F7]) ?_;refine RG [] N3 fun _ _ g r=>?_;try simp [F7]
    and_intros <;> first | exact GK g | apply r | omega | (simp [maxLen,F7] <;> omega)
    refine hK8 _ _ _ ?_;refine RN h0 [] [(3,Lw v8),(4,Lb v4),(7,Lw v5),(8,Iz (IntKind.wrap .i64 (v7+64)))] [] 0 (by simp [F7]) (by simp [F7]) ?_;exact NX (k':=n3) ((v8,IntKind.wrap .i64 (v7+64))) hF (by simp [F7]) (by simp [F7])
   ·have h9_:=h9;try simp at h9_
    have F8:=A3 F5 h9 h9_;refine CF (by simp [F8] <;> omega) ?_;refine AW.exit ?_;try simp
    refine hK7 _ _ _ ?_;refine SW F8 [] [none] [4,7,8] [(9,.lst true true (List.map (AV.int .u8) ([] : List Int)))] [] [] 0 ?_;refine AW.seq fun K11 hK11=>?_;refine SW F8 [] [none] [] [(10,Iz 0)] [] [] 0 ?_;refine AW.block ?_;refine AW.own' 9 1 true (by simp [F8]) (by decide) ?_;refine AW.loopF (α:=(Int×(List Int))) (fun n (v9,v10)=>Aa0.L4 k v6 n v9 v10=some v1) (fun (v9,v10)=>[(3,Lw v6),(9,Sc 0 v10),(10,Iz v9)]) (fun (v9,v10)=>[(0,.grow (List.map (AV.int .u8) v10))]) 1 k ((0,([] : List Int))) hF (by simp [F8]) (by simp [F8]) (by simp) ?_;rintro (_|n4) ⟨v9,v10⟩ hF K12 hK12
    ·try dsimp only at hF
     rw [Aa0.L4] at hF; cases hF
    try dsimp only at hF
    rw [Aa0.L4] at hF;refine AW.seq fun K13 hK13=>?_;refine SW F8 [] N2 [] [(56,.bool (decide (v9<8)))] [] [] 1 ?_;rcases IFo hF with ⟨h14,hF⟩|⟨h14,hF⟩
    ·have h14_:=h14;try simp at h14_
     have F9:=A3 F8 h14 h14_;refine CT (by simp [F9] <;> omega) ?_;refine AW.skip (hK13 _ _ _ ?_);refine AW.seq fun K14 hK14=>?_;refine AW.block ?_;refine RG [] N27 fun _ _ g r=>?_;obtain ⟨v11,h15,h16,h17,hF⟩:=Aai hF;have h17_:=AbA h17;try simp at h17_
     have h16_:=h16;try simp at h16_
     obtain ⟨h18,hF⟩:=AaP hF;have h18_:=h18;try simp at h18_
     have F10:=A7 F9 h15 h16 h17 h17_ h16_ h18;try simp [F10]
     and_intros <;> first | exact GK g | apply r | omega | (simp [maxLen,F10] <;> omega)
     refine hK14 _ _ _ ?_;refine WK [(3,Lw v6),(9,.slc 1 0 1 ((v10++([IntKind.wrap .u8 (Int.fdiv v11 (2 ^ (24))),IntKind.wrap .u8 (Int.fdiv v11 (2 ^ (16))),IntKind.wrap .u8 (Int.fdiv v11 (2 ^ (8))),IntKind.wrap .u8 v11] : List Int)).length) false),(10,Iz v9)] [(1,.grow (List.map (AV.int .u8) (v10++([IntKind.wrap .u8 (Int.fdiv v11 (2 ^ (24))),IntKind.wrap .u8 (Int.fdiv v11 (2 ^ (16))),IntKind.wrap .u8 (Int.fdiv v11 (2 ^ (8))),IntKind.wrap .u8 v11] : List Int))))] 2 (by simp [F10] <;> omega) (by simp [F10]) ?_;refine RG [] N3 fun _ _ g r=>?_;try simp [F10]
     and_intros <;> first | exact GK g | apply r | omega | (simp [maxLen,F10] <;> omega)
     refine hK12 _ _ _ ?_;refine RN h0 [(0,1)] [(3,Lw v6),(9,.slc 0 0 1 ((v10++([IntKind.wrap .u8 (Int.fdiv v11 (2 ^ (24))),IntKind.wrap .u8 (Int.fdiv v11 (2 ^ (16))),IntKind.wrap .u8 (Int.fdiv v11 (2 ^ (8))),IntKind.wrap .u8 v11] : List Int)).length) false),(10,Iz (IntKind.wrap .i64 (v9+1)))] [(0,.grow (List.map (AV.int .u8) (v10++([IntKind.wrap .u8 (Int.fdiv v11 (2 ^ (24))),IntKind.wrap .u8 (Int.fdiv v11 (2 ^ (16))),IntKind.wrap .u8 (Int.fdiv v11 (2 ^ (8))),IntKind.wrap .u8 v11] : List Int))))] 1 (by simp [F10] <;> omega) (by simp [F10]) ?_;exact NX (k':=n4) ((IntKind.wrap .i64 (v9+1),v10++([IntKind.wrap .u8 (Int.fdiv v11 (2 ^ (24))),IntKind.wrap .u8 (Int.fdiv v11 (2 ^ (16))),IntKind.wrap .u8 (Int.fdiv v11 (2 ^ (8))),IntKind.wrap .u8 v11] : List Int))) hF (by simp [F10]) (by simp [F10])
    ·have h14_:=h14;try simp at h14_
     have F11:=A3 F8 h14 h14_;refine CF (by simp [F11] <;> omega) ?_;refine AW.exit ?_;try simp
     refine hK11 _ _ _ ?_;refine WJ [(9,Sc 0 v10)] [(0,.grow (List.map (AV.int .u8) v10))] 1 (by simp [F11]) ?_;refine AW.frz 0 (o := .grow (List.map (AV.int .u8) v10)) (by simp [F11]) rfl [(9,Lb v10)] [] ⟨(.l (by simp) (by simp) (by simp) (by simp)),trivial⟩ trivial ?_;refine WJ [(9,Lb v10)] [] 1 (by simp [F11]) ?_;refine SW F11 [] N3 [9] [(2,.str (ofI v10))] [] [] 1 ?_;cases hF;exact AW.ret (hQ _ _ _ (by simp [Try.f46,F11]) (AaE (by simp [F11]))).1
end Go.TF
