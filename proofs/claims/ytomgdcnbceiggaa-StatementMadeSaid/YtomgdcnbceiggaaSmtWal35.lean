import Derived.Test.YtomgdcnbceiggaaSmtWal29
import Derived.Test.YtomgdcnbceiggaaSmtWal34
set_option linter.unusedVariables false
set_option linter.unusedSimpArgs false
set_option maxRecDepth 100000
set_option maxHeartbeats 4000000
namespace Go.TF
open Go Go.Abs Go.Proofs Go.Proofs.YtomgdcnbceiggaaSmT
theorem Ado (k : Nat) (v0 v1 : Int) (v2 : ByteArray) (v3 v4 v5 v6 v7 : Int) (v8 : (List Int)) (v9 : (List AaD)) (v10 : ByteArray) (v11 : Int) (v12 v13 : ByteArray) (hF : Acl k v0 v1 v2 v3 v4 v5 v6 v7 v8 v9 v10 v11 v12=some v13) :
 AbP Try.prog 57 [AV.agg [AV.int .i64 v0,AV.int .i64 v1,AV.str v2,AV.int .i64 v3,AV.int .i64 v4,AV.int .i64 v5,AV.int .i64 v6,AV.int .i64 v7,AV.lst false false (List.map (AV.int .i64) v8),Q0 v9,AV.str v10,AV.int .i64 v11,AV.str v12]] [] (AV.str v13) []:=by
 unfold Acl at hF;refine EN Try.func57 ?_;intro c0 w0 Q h0 hQ
 refine WJ [(0,.agg [Iz v0,Iz v1,AV.str v2,Iz v3,Iz v4,Iz v5,Iz v6,Iz v7,Lz v8,Q0 v9,AV.str v10,Iz v11,AV.str v12])] [] 0 (by simp) ?_;refine SW trivial [] N2 [0] [(1,.ptr 0 0)] [] [(0,.cells [Iz v0,Iz v1,AV.str v2,Iz v3,Iz v4,Iz v5,Iz v6,Iz v7,Lz v8,Q0 v9,AV.str v10,Iz v11,AV.str v12])] 1 ?_;refine SR [] N4 fun _ _ g r=>?_;try simp
 and_intros
 try any_goals first | omega | (simp [maxLen] <;> omega)
 obtain ⟨v14,h1,hF⟩:=AaG hF;refine AC (Aey k _ _ _ _ _ _ _ _ _ _ _ _ _ _ h1) (.cons (.same (by simp)) .nil) ?_;try simp
 and_intros
 try any_goals first | omega | (simp [maxLen] <;> omega)
 obtain ⟨v15,h2,hF⟩:=AaG hF;refine AaO (AkL k _ _ h2) (by simp) [] [1] [] rfl (.cons (Coe.l (o := .grow (List.map (AV.int .u8) v14)) (by simp) rfl (by simp) (by simp [AcA]) (by simp) (by simp)) .nil) (by simp) (by decide) (by simp) (by simp) (.inr ⟨by simp,by simp⟩) (by simp) (by simp) ?_;refine TL trivial g r [1] [(2,.str v15)] [0] [] 2 ?_;cases hF;refine AW.ret (hQ _ _ _ ?_ (AaE ?_)).1
 ·simp [Try.f57]
 ·simp
abbrev Aj8  : Aan := .cells [Iz 0,Iz 0,AV.str (ByteArray.mk #[]),Iz 0,Iz 0,Iz 0,Iz 0,Iz 0,AV.lst true true (List.map (AV.int .i64) ([] : List Int)),AV.lst true true (List.map AaD.av ([] : List AaD)),AV.str (ByteArray.mk #[]),Iz 0,AV.str (ByteArray.mk #[])]
theorem AjR (k : Nat) (v0 v1 : Int) (v2 : ByteArray) (v3 v4 v5 v6 v7 : Int) (v8 : (List Int)) (v9 : (List AaD)) (v10 : ByteArray) (v11 : Int) (v12 : ByteArray) (v13 : AaI) (hF : Aes k v0 v1 v2 v3 v4 v5 v6 v7 v8 v9 v10 v11 v12=some v13) :
 AbP Try.prog 21 [AV.agg [AV.int .i64 v0,AV.int .i64 v1,AV.str v2,AV.int .i64 v3,AV.int .i64 v4,AV.int .i64 v5,AV.int .i64 v6,AV.int .i64 v7,AV.lst false false (List.map (AV.int .i64) v8),Q0 v9,AV.str v10,AV.int .i64 v11,AV.str v12]] [] (AV.agg [AV.int .i64 v13.Author,AV.int .i64 v13.Number,AV.str v13.Prev,AV.int .i64 v13.Time,AV.int .i64 v13.Kind,AV.int .i64 v13.A,AV.int .i64 v13.B,AV.int .i64 v13.C,AV.lst false false (List.map (AV.int .i64) v13.Lst),Q0 v13.Pins,AV.str v13.Body,AV.int .i64 v13.Seal_Key,AV.str v13.Seal_Digest]) []:=by
 unfold Aes at hF;refine EN Try.func21 ?_;intro c0 w0 Q h0 hQ
 refine WJ [(0,.agg [Iz v0,Iz v1,AV.str v2,Iz v3,Iz v4,Iz v5,Iz v6,Iz v7,Lz v8,Q0 v9,AV.str v10,Iz v11,AV.str v12])] [] 0 (by simp) ?_;refine SW trivial [] N2 [0] [(1,.ptr 0 0),(2,.ptr 1 0)] [] [(0,.cells [Iz v0,Iz v1,AV.str v2,Iz v3,Iz v4,Iz v5,Iz v6,Iz v7,Lz v8,Q0 v9,AV.str v10,Iz v11,AV.str v12]),(1,Aj8 )] 2 ?_;obtain ⟨v14,h1,hF⟩:=AaG hF;refine CL trivial [] N3 (AjS k _ _ _ _ _ _ _ _ _ _ _ _ _ _ h1) [] [] [0] [(0,.cells [Iz v14.Author,Iz v14.Number,AV.str v14.Prev,Iz v14.Time,Iz v14.Kind,Iz v14.A,Iz v14.B,Iz v14.C,AV.lst false false (List.map (AV.int .i64) v14.Lst),Q0 v14.Pins,AV.str v14.Body,Iz v14.Seal_Key,AV.str v14.Seal_Digest])] 2 ?_;obtain ⟨v15,h2,hF⟩:=AaG hF;refine CL trivial [] N7 (Ado k _ _ _ _ _ _ _ _ _ _ _ _ _ _ h2) [] [] [0] [(0,.cells [Iz v14.Author,Iz v14.Number,AV.str v14.Prev,Iz v14.Time,Iz v14.Kind,Iz v14.A,Iz v14.B,Iz v14.C,AV.lst false false (List.map (AV.int .i64) v14.Lst),Q0 v14.Pins,AV.str v14.Body,Iz v14.Author,AV.str v15])] 2 ?_;refine SQ [] N2 fun _ _ g r=>?_;try simp
 and_intros <;> first | exact GK g | apply r | omega | (simp [maxLen] <;> omega)
 refine RM h0 [(0,1)] [(2,.ptr 0 0)] [(0,.cells [Iz v14.Author,Iz v14.Number,AV.str v14.Prev,Iz v14.Time,Iz v14.Kind,Iz v14.A,Iz v14.B,Iz v14.C,AV.lst false false (List.map (AV.int .i64) v14.Lst),Q0 v14.Pins,AV.str v14.Body,Iz v14.Author,AV.str v15])] 1 (by simp) (by simp) ?_;cases hF;refine AW.ret (hQ _ _ _ ?_ (AaE ?_)).1
 ·simp [Try.f21]
 ·simp
abbrev AiE  : Aan := .cells [Iz 0,Iz 0,AV.str (ByteArray.mk #[]),Iz 0,Iz 0,Iz 0,Iz 0,Iz 0,AV.lst true true (List.map (AV.int .i64) ([] : List Int)),AV.lst true true (List.map AaD.av ([] : List AaD)),AV.str (ByteArray.mk #[]),Iz 0,AV.str (ByteArray.mk #[])]
theorem Aft (k : Nat) (v0 v1 : Int) (v2 : ByteArray) (v3 v4 v5 v6 v7 : Int) (v8 : (List Int)) (v9 : (List AaD)) (v10 : ByteArray) (v11 : Int) (v12 : ByteArray) (v13 : AaI) (hF : Acm k v0 v1 v2 v3 v4 v5 v6 v7 v8 v9 v10 v11 v12=some v13) :
 AbP Try.prog 27 [AV.agg [AV.int .i64 v0,AV.int .i64 v1,AV.str v2,AV.int .i64 v3,AV.int .i64 v4,AV.int .i64 v5,AV.int .i64 v6,AV.int .i64 v7,AV.lst false false (List.map (AV.int .i64) v8),Q0 v9,AV.str v10,AV.int .i64 v11,AV.str v12]] [] (AV.agg [AV.int .i64 v13.Author,AV.int .i64 v13.Number,AV.str v13.Prev,AV.int .i64 v13.Time,AV.int .i64 v13.Kind,AV.int .i64 v13.A,AV.int .i64 v13.B,AV.int .i64 v13.C,AV.slc 0 0 1 v13.Lst.length false,AV.slc 1 0 3 v13.Pins.length false,AV.str v13.Body,AV.int .i64 v13.Seal_Key,AV.str v13.Seal_Digest]) [some (Gi v13.Lst),some (.grow (AaM (List.map AaD.av v13.Pins)))]:=by
 unfold Acm at hF;refine EN Try.func27 ?_;intro c0 w0 Q h0 hQ
 refine WJ [(0,.agg [Iz v0,Iz v1,AV.str v2,Iz v3,Iz v4,Iz v5,Iz v6,Iz v7,Lz v8,Q0 v9,AV.str v10,Iz v11,AV.str v12])] [] 0 (by simp) ?_;refine SW trivial [] N2 [0] [(1,.ptr 0 0),(2,.ptr 1 0)] [] [(0,.cells [Iz v0,Iz v1,AV.str v2,Iz v3,Iz v4,Iz v5,Iz v6,Iz v7,Lz v8,Q0 v9,AV.str v10,Iz v11,AV.str v12]),(1,AiE )] 2 ?_;refine SR [5] N5 fun _ _ g r=>?_;obtain ⟨h1,hF⟩:=AaP hF;have h1_:=h1;try simp at h1_
 refine TL h1 g r [] [] [0] [(0,.cells [Iz v0,Iz v1,AV.str v2,Iz v3,Iz v4,Iz v5,Iz v6,Iz v7,Sc 2 v8,Q0 v9,AV.str v10,Iz v11,AV.str v12]),(2,Gi v8)] 3 ?_;refine SR [9] N5 fun _ _ g r=>?_;obtain ⟨h2,hF⟩:=AaP hF;have h2_:=h2;try simp at h2_
 refine TL (A2 h1 h2) g r [] [] [0] [(0,.cells [Iz v0,Iz v1,AV.str v2,Iz v3,Iz v4,Iz v5,Iz v6,Iz v7,Sc 2 v8,AV.slc 3 0 3 v9.length false,AV.str v10,Iz v11,AV.str v12]),(3,.grow (AaM (List.map AaD.av v9)))] 4 ?_;refine SQ [] N2 fun _ _ g r=>?_;try simp [h1,h2]
 and_intros <;> first | exact GK g | apply r | omega | (simp [h1,h2,maxLen] <;> omega)
 refine RM h0 [(0,2),(1,3),(2,1)] [(2,.ptr 2 0)] [(0,Gi v8),(1,.grow (AaM (List.map AaD.av v9))),(2,.cells [Iz v0,Iz v1,AV.str v2,Iz v3,Iz v4,Iz v5,Iz v6,Iz v7,Sc 0 v8,AV.slc 1 0 3 v9.length false,AV.str v10,Iz v11,AV.str v12])] 3 (by simp [h1,h2]) (by simp [h1,h2]) ?_;cases hF;exact AW.ret (hQ _ _ _ (by simp [Try.f27,h1,h2]) (AaE (by simp [h1,h2]))).1
abbrev AiD  : Aan := .cells [Iz 0,Iz 0,AV.str (ByteArray.mk #[]),Iz 0,Iz 0,Iz 0,Iz 0,Iz 0,AV.lst true true (List.map (AV.int .i64) ([] : List Int)),AV.lst true true (List.map AaD.av ([] : List AaD)),AV.str (ByteArray.mk #[]),Iz 0,AV.str (ByteArray.mk #[])]
theorem Afs (k : Nat) (v0 v1 : Int) (v2 : ByteArray) (v3 v4 v5 v6 v7 : Int) (v8 : (List Int)) (v9 : (List AaD)) (v10 : ByteArray) (v11 : Int) (v12 : ByteArray) (v13 : AaI) (hF : Acj k v0 v1 v2 v3 v4 v5 v6 v7 v8 v9 v10 v11 v12=some v13) :
 AbP Try.prog 21 [AV.agg [AV.int .i64 v0,AV.int .i64 v1,AV.str v2,AV.int .i64 v3,AV.int .i64 v4,AV.int .i64 v5,AV.int .i64 v6,AV.int .i64 v7,AV.lst false false (List.map (AV.int .i64) v8),Q0 v9,AV.str v10,AV.int .i64 v11,AV.str v12]] [] (AV.agg [AV.int .i64 v13.Author,AV.int .i64 v13.Number,AV.str v13.Prev,AV.int .i64 v13.Time,AV.int .i64 v13.Kind,AV.int .i64 v13.A,AV.int .i64 v13.B,AV.int .i64 v13.C,AV.slc 0 0 1 v13.Lst.length false,AV.slc 1 0 3 v13.Pins.length false,AV.str v13.Body,AV.int .i64 v13.Seal_Key,AV.str v13.Seal_Digest]) [some (Gi v13.Lst),some (.grow (AaM (List.map AaD.av v13.Pins)))]:=by
 unfold Acj at hF;refine EN Try.func21 ?_;intro c0 w0 Q h0 hQ
 refine WJ [(0,.agg [Iz v0,Iz v1,AV.str v2,Iz v3,Iz v4,Iz v5,Iz v6,Iz v7,Lz v8,Q0 v9,AV.str v10,Iz v11,AV.str v12])] [] 0 (by simp) ?_;refine SW trivial [] N2 [0] [(1,.ptr 0 0),(2,.ptr 1 0)] [] [(0,.cells [Iz v0,Iz v1,AV.str v2,Iz v3,Iz v4,Iz v5,Iz v6,Iz v7,Lz v8,Q0 v9,AV.str v10,Iz v11,AV.str v12]),(1,AiD )] 2 ?_;obtain ⟨v14,h1,hF⟩:=AaG hF;refine CL trivial [] N3 (Aft k _ _ _ _ _ _ _ _ _ _ _ _ _ _ h1) [] [] [0] [(0,.cells [Iz v14.Author,Iz v14.Number,AV.str v14.Prev,Iz v14.Time,Iz v14.Kind,Iz v14.A,Iz v14.B,Iz v14.C,AV.slc 2 0 1 v14.Lst.length false,AV.slc 3 0 3 v14.Pins.length false,AV.str v14.Body,Iz v14.Seal_Key,AV.str v14.Seal_Digest]),(2,Gi v14.Lst),(3,.grow (AaM (List.map AaD.av v14.Pins)))] 4 ?_;refine SR [] N7 fun _ _ g r=>?_;try simp
 and_intros
 try any_goals first | omega | (simp [maxLen] <;> omega)
 obtain ⟨v15,h2,hF⟩:=AaG hF;refine AaO (Ado k _ _ _ _ _ _ _ _ _ _ _ _ _ _ h2) (by simp) [] [2,3] [] rfl (.cons (.agg (.cons (.same (by simp)) (.cons (.same (by simp)) (.cons (.same (by simp)) (.cons (.same (by simp)) (.cons (.same (by simp)) (.cons (.same (by simp)) (.cons (.same (by simp)) (.cons (.same (by simp)) (.cons (Coe.l (o:=Gi v14.Lst) (by simp) rfl (by simp) (by simp [AcA]) (by simp) (by simp)) (.cons (Coe.l (o := .grow (AaM (List.map AaD.av v14.Pins))) (by simp) rfl (by simp) (by simp [AcA]) (by simp) (by simp)) (.cons (.same (by simp)) (.cons (.same (by simp)) (.cons (.same (by simp)) .nil)))))))))))))) .nil) (by simp) (by decide) (by simp) (by simp) (.inr ⟨by simp,by simp⟩) (by simp) (by simp) ?_;refine TL trivial g r [] [] [0] [(0,.cells [Iz v14.Author,Iz v14.Number,AV.str v14.Prev,Iz v14.Time,Iz v14.Kind,Iz v14.A,Iz v14.B,Iz v14.C,AV.slc 2 0 1 v14.Lst.length false,AV.slc 3 0 3 v14.Pins.length false,AV.str v14.Body,Iz v14.Author,AV.str v15])] 4 ?_;refine SQ [] N2 fun _ _ g r=>?_;try simp
 and_intros <;> first | exact GK g | apply r | omega | (simp [maxLen] <;> omega)
 refine RM h0 [(0,2),(1,3),(2,1)] [(2,.ptr 2 0)] [(0,Gi v14.Lst),(1,.grow (AaM (List.map AaD.av v14.Pins))),(2,.cells [Iz v14.Author,Iz v14.Number,AV.str v14.Prev,Iz v14.Time,Iz v14.Kind,Iz v14.A,Iz v14.B,Iz v14.C,AV.slc 0 0 1 v14.Lst.length false,AV.slc 1 0 3 v14.Pins.length false,AV.str v14.Body,Iz v14.Author,AV.str v15])] 3 (by simp) (by simp) ?_;cases hF;refine AW.ret (hQ _ _ _ ?_ (AaE ?_)).1
 ·simp [Try.f21]
 ·simp
theorem Afz (k : Nat) (v0 : Int) (v1 : Bool) (hF : AeH k v0=some v1) :
 AbP Try.prog 94 [AV.int .i64 v0] [] (AV.bool v1) []:=by
 unfold AeH at hF;refine EN Try.func94 ?_;intro c0 w0 Q h0 hQ
 refine WJ [(0,Iz v0)] [] 0 (by simp) ?_;refine SW trivial [] [none] [] [] [] [] 0 ?_;refine SR [] [none,none,none,some (5,true),some (5,true),none,none] fun _ _ g r=>?_;rcases IFo hF with ⟨h1,hF⟩|⟨h1,hF⟩
 ·have h1_:=h1;try simp at h1_
  refine TL (A2 h1 h1_) g r [0] [(2,.bool (decide (v0<64)))] [] [] 0 ?_;cases hF;exact AW.ret (hQ _ _ _ (by simp [Try.f94,h1,h1_]) (AaE (by simp [h1,h1_]))).1
 ·have h1_:=h1;try simp at h1_
  refine TL (A2 h1 h1_) g r [0] [(2,.bool false)] [] [] 0 ?_;cases hF;exact AW.ret (hQ _ _ _ (by simp [Try.f94,h1,h1_]) (AaE (by simp [h1,h1_]))).1
theorem Ade (k : Nat) (v0 v1 : Int) (v2 : Bool) (hF : AdY k v0 v1=some v2) :
 AbP Try.prog 95 [AV.int .i64 v0,AV.int .i64 v1] [] (AV.bool v2) []:=by
 unfold AdY at hF;refine EN Try.func95 ?_;intro c0 w0 Q h0 hQ
 refine WJ [(0,Iz v0),(1,Iz v1)] [] 0 (by simp) ?_;refine SW trivial [] [none] [] [] [] [] 0 ?_;refine SR [] [none,none,none,some (7,true),some (7,true),some (7,true),none,none] fun _ _ g r=>?_;rcases IFo hF with ⟨h1,hF⟩|⟨h1,hF⟩
 ·have h1_:=h1;try simp at h1_
  refine TL (A2 h1 h1_) g r [0,1] [(4,.bool (decide (v0≤v1)))] [] [] 0 ?_;cases hF;exact AW.ret (hQ _ _ _ (by simp [Try.f95,h1,h1_]) (AaE (by simp [h1,h1_]))).1
 ·have h1_:=h1;try simp at h1_
  refine TL (A2 h1 h1_) g r [0,1] [(4,.bool false)] [] [] 0 ?_;cases hF;exact AW.ret (hQ _ _ _ (by simp [Try.f95,h1,h1_]) (AaE (by simp [h1,h1_]))).1
abbrev AfX (v0 v1 : Int) (v2 : ByteArray) (v3 v4 v5 v6 v7 : Int) (v8 : (List Int)) (v9 : (List AaD)) (v10 : ByteArray) (v11 : Int) (v12 : ByteArray) : Aan := .cells [Iz v0,Iz v1,AV.str v2,Iz v3,Iz v4,Iz v5,Iz v6,Iz v7,Lz v8,Q0 v9,AV.str v10,Iz v11,AV.str v12]
theorem AhR (k : Nat) (v0 v1 : Int) (v2 : ByteArray) (v3 v4 v5 v6 v7 : Int) (v8 : (List Int)) (v9 : (List AaD)) (v10 : ByteArray) (v11 : Int) (v12 : ByteArray) (v13 : Bool) (hF : AbV k v0 v1 v2 v3 v4 v5 v6 v7 v8 v9 v10 v11 v12=some v13) :
 AbP Try.prog 96 [AV.agg [AV.int .i64 v0,AV.int .i64 v1,AV.str v2,AV.int .i64 v3,AV.int .i64 v4,AV.int .i64 v5,AV.int .i64 v6,AV.int .i64 v7,AV.lst false false (List.map (AV.int .i64) v8),Q0 v9,AV.str v10,AV.int .i64 v11,AV.str v12]] [] (AV.bool v13) []:=by
 unfold AbV at hF;refine EN Try.func96 ?_;intro c0 w0 Q h0 hQ
 refine WJ [(0,.agg [Iz v0,Iz v1,AV.str v2,Iz v3,Iz v4,Iz v5,Iz v6,Iz v7,Lz v8,Q0 v9,AV.str v10,Iz v11,AV.str v12])] [] 0 (by simp) ?_;refine SW trivial [] N2 [0] [(1,.ptr 0 0)] [] [(0,AfX v0 v1 v2 v3 v4 v5 v6 v7 v8 v9 v10 v11 v12)] 1 ?_;refine AW.seq fun K0 hK0=>?_;refine SR [] [none,none,none,none,none,some (8,false),some (8,false),some (8,false),some (8,false),none,none,some (14,false),some (14,false),some (14,false),some (14,false),none,none,some (20,false),some (20,false),some (20,false),some (20,false),none] fun _ _ g r=>?_;try simp
 and_intros
 try any_goals first | omega | (simp [maxLen] <;> omega)
 obtain ⟨v14,h1,hF⟩:=AaG hF;refine AC (Ade k _ _ _ h1) (.cons (.same (by simp)) (.cons (.same (by simp)) .nil)) ?_;rcases IFo hF with ⟨h2,hF⟩|⟨h2,hF⟩
 ·have h2_:=h2;try simp at h2_
  refine TL (A2 h2 h2_) g r [] [(25,.bool true)] [] [] 1 ?_;refine CT (by simp [h2,h2_]) ?_;refine SW (A2 h2 h2_) [] [none] [1,25] [(2,.bool false)] [0] [] 1 ?_;cases hF;exact AW.ret (hQ _ _ _ (by simp [Try.f96,h2,h2_]) (AaE (by simp [h2,h2_]))).1
 ·have h2_:=h2;try simp at h2_
  try simp [h2,h2_]
  and_intros
  try any_goals first | omega | (simp [h2,h2_,maxLen] <;> omega)
  obtain ⟨v15,h3,hF⟩:=AaG hF;refine AC (Ade k _ _ _ h3) (.cons (.same (by simp [h2,h2_])) (.cons (.same (by simp [h2,h2_])) .nil)) ?_;rcases IFo hF with ⟨h4,hF⟩|⟨h4,hF⟩
  ·have h4_:=h4;try simp at h4_
   have F1:=A4 h2 h2_ h4 h4_;refine TL F1 g r [] [(25,.bool true)] [] [] 1 ?_;refine CT (by simp [F1]) ?_;refine SW F1 [] [none] [1,25] [(2,.bool false)] [0] [] 1 ?_;cases hF;exact AW.ret (hQ _ _ _ (by simp [Try.f96,F1]) (AaE (by simp [F1]))).1
  ·have h4_:=h4;try simp at h4_
   have F2:=A4 h2 h2_ h4 h4_;try simp [F2]
   and_intros
   try any_goals first | omega | (simp [maxLen,F2] <;> omega)
   obtain ⟨v16,h5,hF⟩:=AaG hF;refine AC (Ade k _ _ _ h5) (.cons (.same (by simp [F2])) (.cons (.same (by simp [F2])) .nil)) ?_;rcases IFo hF with ⟨h6,hF⟩|⟨h6,hF⟩
   ·have h6_:=h6;try simp at h6_
    have F3:=A3 F2 h6 h6_;refine TL F3 g r [] [(25,.bool true)] [] [] 1 ?_;refine CT (by simp [F3]) ?_;refine SW F3 [] [none] [1,25] [(2,.bool false)] [0] [] 1 ?_;cases hF;exact AW.ret (hQ _ _ _ (by simp [Try.f96,F3]) (AaE (by simp [F3]))).1
   ·have h6_:=h6;try simp at h6_
    have F4:=A3 F2 h6 h6_;try simp [F4]
    and_intros
    try any_goals first | omega | (simp [maxLen,F4] <;> omega)
    obtain ⟨v17,h7,hF⟩:=AaG hF;refine AC (Ade k _ _ _ h7) (.cons (.same (by simp [F4])) (.cons (.same (by simp [F4])) .nil)) ?_;refine TL F4 g r [] [(25,.bool (!v17))] [] [] 1 ?_;rcases IFo hF with ⟨h8,hF⟩|⟨h8,hF⟩
    ·have h8_:=h8;try simp at h8_
     have F5:=A3 F4 h8 h8_;refine CT (by simp [F5] <;> omega) ?_;refine SW F5 [] [none] [1,25] [(2,.bool false)] [0] [] 1 ?_;cases hF;exact AW.ret (hQ _ _ _ (by simp [Try.f96,F5]) (AaE (by simp [F5]))).1
    ·have h8_:=h8;try simp at h8_
     have F6:=A3 F4 h8 h8_;refine CF (by simp [F6] <;> omega) ?_;refine AW.skip (hK0 _ _ _ ?_);refine AW.seq fun K1 hK1=>?_;refine SW F6 [] [none] [25] [(3,Iz 0)] [] [] 1 ?_;refine AW.block ?_;refine AW.loopF (α:=Int) (fun n v18=>AbV.L1 k v0 v3 v4 v5 v6 v7 v8 n v18=some v13) (fun v18=>[(1,.ptr 0 0),(3,Iz v18)]) (fun v18=>[(0,AfX v0 v1 v2 v3 v4 v5 v6 v7 v8 v9 v10 v11 v12)]) 1 k (0) hF (by simp [F6]) (by simp [F6]) (by simp) ?_;rintro (_|n1) v18 hF K2 hK2
     ·try dsimp only at hF
      rw [AbV.L1] at hF; cases hF
     try dsimp only at hF
     rw [AbV.L1] at hF;refine AW.seq fun K3 hK3=>?_;refine SW F6 [] N5 [] [(30,.bool (decide (v18<(v8.length : Int))))] [] [] 1 ?_;rcases IFo hF with ⟨h9,hF⟩|⟨h9,hF⟩
     ·have h9_:=h9;try simp at h9_
      have F7:=A3 F6 h9 h9_;refine CT (by simp [F7] <;> omega) ?_;refine AW.skip (hK3 _ _ _ ?_);refine AW.seq fun K4 hK4=>?_;refine AW.block ?_;refine SR [] N7 fun _ _ g r=>?_;obtain ⟨v19,h10,h11,h12,hF⟩:=Aai hF;have h12_:=AbA h12;try simp at h12_
      have h11_:=h11;try simp at h11_
      have F8:=A6 F7 h10 h11 h12 h12_ h11_;try simp [F8]
      and_intros
      try any_goals first | omega | (simp [maxLen,F8] <;> omega)
      obtain ⟨v20,h13,hF⟩:=AaG hF;refine AC (Ade k _ _ _ h13) (.cons (.same (by simp [F8])) (.cons (.same (by simp [F8])) .nil)) ?_;refine TL F8 g r [] [(39,.bool (!v20))] [] [] 1 ?_;rcases IFo hF with ⟨h14,hF⟩|⟨h14,hF⟩
      ·have h14_:=h14;try simp at h14_
       have F9:=A3 F8 h14 h14_;refine CT (by simp [F9] <;> omega) ?_;refine SW F9 [] [none] [1,3,39] [(2,.bool false)] [0] [] 1 ?_;cases hF;exact AW.ret (hQ _ _ _ (by simp [Try.f96,F9]) (AaE (by simp [F9]))).1
      ·have h14_:=h14;try simp at h14_
       have F10:=A3 F8 h14 h14_;refine CF (by simp [F10] <;> omega) ?_;refine AW.skip (hK4 _ _ _ ?_);refine RG [] N3 fun _ _ g r=>?_;try simp [F10]
       and_intros <;> first | exact GK g | apply r | omega | (simp [maxLen,F10] <;> omega)
       refine hK2 _ _ _ ?_;exact NX (k':=n1) (IntKind.wrap .i64 (v18+1)) hF (by simp [F10]) (by simp [F10])
     ·have h9_:=h9;try simp at h9_
      have F11:=A3 F6 h9 h9_;refine CF (by simp [F11] <;> omega) ?_;refine AW.exit ?_;try simp
      refine hK1 _ _ _ ?_;refine AW.seq fun K5 hK5=>?_;refine SW F11 [] N2 [3] [(41,Iz v4)] [] [] 1 ?_;refine AW.block ?_;refine SW F11 [] N2 [] [(42,.bool (v4==1))] [] [] 1 ?_;rcases IFo hF with ⟨h15,hF⟩|⟨h15,hF⟩
      ·have h15q : v4=1:=h15;have h15_:=Abf h15q;have h15__:=Abe h15q;have F12:=A4 F11 h15_ h15__ h15q;refine CT (by simp [F12] <;> omega) ?_;refine SR [] [none,none,none,none,some (47,true),some (47,true),some (47,true),some (47,true),some (47,true),none,none,some (54,true),some (54,true),some (54,true),none,none,some (59,true),some (59,true),some (59,true),none,none,some (64,true),some (64,true),some (64,true),some (64,true),some (64,true),none,none,some (71,true),some (71,true),some (71,true),none,none] fun _ _ g r=>?_;try simp [F12]
       and_intros
       try any_goals first | omega | (simp [maxLen,F12] <;> omega)
       obtain ⟨v21,h16,hF⟩:=AaG hF;refine AC (Afz k _ _ h16) (.cons (.same (by simp [F12])) .nil) ?_;rcases IFo hF with ⟨h17,hF⟩|⟨h17,hF⟩
       ·have h17_:=h17;try simp at h17_
        rcases IFo hF with ⟨h18,hF⟩|⟨h18,hF⟩
        ·have h18_:=Aba h18;have h18__:=Abd h18;rcases IFo hF with ⟨h19,hF⟩|⟨h19,hF⟩
         ·have h19_:=h19;try simp at h19_
          rcases IFo hF with ⟨h20,hF⟩|⟨h20,hF⟩
          ·have h20_:=h20;try simp at h20_
           rcases IFo hF with ⟨h21,hF⟩|⟨h21,hF⟩
           ·have h21_:=h21;try simp at h21_
            have F13:=A9 F12 h17 h17_ h18 h18_ h18__ h19 h19_ (A4 h20 h20_ h21 h21_);refine TL F13 g r [1,41,42] [(2,.bool (decide (v7≤2147483648)))] [0] [] 1 ?_;cases hF;exact AW.ret (hQ _ _ _ (by simp [Try.f96,F13]) (AaE (by simp [F13]))).1
           ·have h21_:=h21;try simp at h21_
            have F14:=A9 F12 h17 h17_ h18 h18_ h18__ h19 h19_ (A4 h20 h20_ h21 h21_);refine TL F14 g r [1,41,42] [(2,.bool false)] [0] [] 1 ?_;cases hF;exact AW.ret (hQ _ _ _ (by simp [Try.f96,F14]) (AaE (by simp [F14]))).1
          ·have h20_:=h20;try simp at h20_
           have F15:=A9 F12 h17 h17_ h18 h18_ h18__ h19 h19_ (A2 h20 h20_);refine TL F15 g r [1,41,42] [(2,.bool false)] [0] [] 1 ?_;cases hF;exact AW.ret (hQ _ _ _ (by simp [Try.f96,F15]) (AaE (by simp [F15]))).1
         ·have h19_:=h19;try simp at h19_
          have F16:=A8 F12 h17 h17_ h18 h18_ h18__ h19 h19_;refine TL F16 g r [1,41,42] [(2,.bool false)] [0] [] 1 ?_;cases hF;exact AW.ret (hQ _ _ _ (by simp [Try.f96,F16]) (AaE (by simp [F16]))).1
        ·have h18q : v5=v0:=Classical.not_not.1 h18;have h18_:=Abf h18q;have h18__:=Abe h18q;have F17:=A5 F12 h17 h17_ h18_ h18__;refine TL F17 g r [1,41,42] [(2,.bool false)] [0] [] 1 ?_;cases hF;exact AW.ret (hQ _ _ _ (by simp [Try.f96,F17]) (AaE (by simp [F17]))).1
       ·have h17_:=h17;try simp at h17_
        have F18:=A3 F12 h17 h17_;refine TL F18 g r [1,41,42] [(2,.bool false)] [0] [] 1 ?_;cases hF;exact AW.ret (hQ _ _ _ (by simp [Try.f96,F18]) (AaE (by simp [F18]))).1
      ·have h15_:=Aba h15;have h15__:=Abd h15;have F19:=A4 F11 h15 h15_ h15__;refine CF (by simp [F19] <;> omega) ?_;refine SW F19 [] N2 [42] [(76,.bool (v4==2))] [] [] 1 ?_;rcases IFo hF with ⟨h22,hF⟩|⟨h22,hF⟩
       ·have h22q : v4=2:=h22;have h22_:=Abf h22q;have h22__:=Abe h22q;have F20:=A4 F19 h22_ h22__ h22q;refine CT (by simp [F20] <;> omega) ?_;refine SR [] [none,none,none,none,some (81,true),some (81,true),some (81,true),none,none,some (86,true),some (86,true),some (86,true),none,none] fun _ _ g r=>?_;try simp [F20]
        and_intros
        try any_goals first | omega | (simp [maxLen,F20] <;> omega)
        obtain ⟨v22,h23,hF⟩:=AaG hF;refine AC (Ade k _ _ _ h23) (.cons (.same (by simp [F20])) (.cons (.same (by simp [F20])) .nil)) ?_;rcases IFo hF with ⟨h24,hF⟩|⟨h24,hF⟩
        ·have h24_:=h24;try simp at h24_
         rcases IFo hF with ⟨h25,hF⟩|⟨h25,hF⟩
         ·have h25q : v6=0:=h25;have h25_:=Abf h25q;have h25__:=Abe h25q;have F21:=A6 F20 h24 h24_ h25_ h25__ h25q;refine TL F21 g r [1,41,76] [(2,.bool (v7==0))] [0] [] 1 ?_;cases hF;exact AW.ret (hQ _ _ _ (by simp [Try.f96,F21]) (AaE (by simp [F21]))).1
         ·have h25_:=Aba h25;have h25__:=Abd h25;have F22:=A6 F20 h24 h24_ h25 h25_ h25__;refine TL F22 g r [1,41,76] [(2,.bool false)] [0] [] 1 ?_;cases hF;exact AW.ret (hQ _ _ _ (by simp [Try.f96,F22]) (AaE (by simp [F22]))).1
        ·have h24_:=h24;try simp at h24_
         have F23:=A3 F20 h24 h24_;refine TL F23 g r [1,41,76] [(2,.bool false)] [0] [] 1 ?_;cases hF;exact AW.ret (hQ _ _ _ (by simp [Try.f96,F23]) (AaE (by simp [F23]))).1
       ·have h22_:=Aba h22;have h22__:=Abd h22;have F24:=A4 F19 h22 h22_ h22__;refine CF (by simp [F24] <;> omega) ?_;refine SW F24 [] N2 [41,76] [(91,.bool (v4==3))] [] [] 1 ?_;rcases IFo hF with ⟨h26,hF⟩|⟨h26,hF⟩
        ·have h26q : v4=3:=h26;have h26_:=Abf h26q;have h26__:=Abe h26q;refine CT (by simp [F24,h26_,h26__,h26q] <;> omega) ?_;refine SR [] [none,none,none,none,some (96,true),some (96,true),some (96,true),none,none,some (101,true),some (101,true),some (101,true),none,none] fun _ _ g r=>?_;rcases IFo hF with ⟨h27,hF⟩|⟨h27,hF⟩
         ·have h27q : v5=0:=h27;have h27_:=Abf h27q;have h27__:=Abe h27q;rcases IFo hF with ⟨h28,hF⟩|⟨h28,hF⟩
          ·have h28q : v6=0:=h28;have h28_:=Abf h28q;have h28__:=Abe h28q;have F25:=A9 F24 h26_ h26__ h26q h27_ h27__ h27q h28_ (A2 h28__ h28q);refine TL F25 g r [1,91] [(2,.bool (v7==0))] [0] [] 1 ?_;cases hF;exact AW.ret (hQ _ _ _ (by simp [Try.f96,F25]) (AaE (by simp [F25]))).1
          ·have h28_:=Aba h28;have h28__:=Abd h28;have F26:=A9 F24 h26_ h26__ h26q h27_ h27__ h27q h28 (A2 h28_ h28__);refine TL F26 g r [1,91] [(2,.bool false)] [0] [] 1 ?_;cases hF;exact AW.ret (hQ _ _ _ (by simp [Try.f96,F26]) (AaE (by simp [F26]))).1
         ·have h27_:=Aba h27;have h27__:=Abd h27;have F27:=A7 F24 h26_ h26__ h26q h27 h27_ h27__;refine TL F27 g r [1,91] [(2,.bool false)] [0] [] 1 ?_;cases hF;exact AW.ret (hQ _ _ _ (by simp [Try.f96,F27]) (AaE (by simp [F27]))).1
        ·have h26_:=Aba h26;have h26__:=Abd h26;have F28:=A4 F24 h26 h26_ h26__;refine CF (by simp [F28] <;> omega) ?_;refine AW.skip (hK5 _ _ _ ?_);refine SW F28 [] [none] [1,91] [(2,.bool true)] [0] [] 1 ?_;cases hF;exact AW.ret (hQ _ _ _ (by simp [Try.f96,F28]) (AaE (by simp [F28]))).1
theorem Aed (k : Nat) (v0 : (List AaD)) (v1 : Bool) (hF : Aag k v0=some v1) :
 AbP Try.prog 97 [Q0 v0] [] (AV.bool v1) []:=by
 unfold Aag at hF;refine EN Try.func97 ?_;intro c0 w0 Q h0 hQ
 refine WJ [(0,Q0 v0)] [] 0 (by simp) ?_;refine SW trivial [] [none] [] [] [] [] 0 ?_;refine AW.seq fun K0 hK0=>?_;refine SW trivial [] [none] [] [(3,Iz 0)] [] [] 0 ?_;refine AW.block ?_;refine AW.loopF (α:=Int) (fun n v2=>Aag.L1 k v0 n v2=some v1) (fun v2=>[(0,Q0 v0),(3,Iz v2)]) (fun v2=>[]) 0 k (0) hF (by simp) (by simp) (by simp) ?_;rintro (_|n1) v2 hF K1 hK1
 ·try dsimp only at hF
  rw [Aag.L1] at hF; cases hF
 try dsimp only at hF
 rw [Aag.L1] at hF;refine AW.seq fun K2 hK2=>?_;refine SW trivial [] N4 [] [(8,.bool (decide (v2<(v0.length : Int))))] [] [] 0 ?_;rcases IFo hF with ⟨h1,hF⟩|⟨h1,hF⟩
 ·have h1_:=h1;try simp at h1_
  refine CT (by simp [h1,h1_] <;> omega) ?_;refine AW.skip (hK2 _ _ _ ?_);refine AW.seq fun K3 hK3=>?_;refine AW.block ?_;refine SR [] N6 fun _ _ g r=>?_;obtain ⟨v3,h2,h3,h4,hF⟩:=Aai hF;have h4_:=AbA h4;try simp at h4_
  have h3_:=h3;try simp at h3_
  have F1:=A7 h1 h1_ h2 h3 h4 h4_ h3_;refine TL F1 g r [] [(4,.ptr 0 0)] [] [(0,.cells [Iz v3.Author,Iz v3.Height,AV.str v3.Digest])] 1 ?_;refine AW.midF (α:=Bool) (fun v4=>Aag.J2 k v2 (fun v2_=>Aag.L1 k v0 n1 v2_) v4=some v1) (fun v4=>[(0,Q0 v0),(3,Iz v2),(49,.bool v4)]) (fun v4=>[]) 0 (fun K4 hK4=>?_) ?_
  ·refine RG [] [none,none,none,none,none,some (19,false),some (19,false),some (19,false),some (22,true),some (22,true),some (22,true),some (22,true),some (22,true),some (22,true),some (22,true),some (22,true),some (22,true),some (19,false),none,none,some (34,false),some (34,false),some (34,false),none,none,some (39,false),some (39,false),some (39,false),none,none,some (44,false),some (44,false),some (44,false),some (44,false),none] fun _ _ g r=>?_;try simp [F1]
   and_intros
   try any_goals first | omega | (simp [maxLen,F1] <;> omega)
   obtain ⟨v5,h6,hF⟩:=AaG hF;refine AC (Afz k _ _ h6) (.cons (.same (by simp [F1])) .nil) ?_;rcases IFo hF with ⟨h7,hF⟩|⟨h7,hF⟩
   ·have h7_:=h7;try simp at h7_
    have F2:=A3 F1 h7 h7_;try simp [F2]
    and_intros <;> first | exact GK g | apply r | omega | (simp [maxLen,F2] <;> omega)
    refine hK4 _ _ _ ?_;refine RN h0 [] [(0,Q0 v0),(3,Iz v2),(49,.bool true)] [] 0 (by simp [F2]) (by simp [F2]) ?_;exact JN (true) hF (by simp [F2]) (by simp [F2])
   ·have h7_:=h7;try simp at h7_
    rcases IFo hF with ⟨h8,hF⟩|⟨h8,hF⟩
    ·have h8_:=h8;try simp at h8_
     obtain ⟨v6,h9,h10,h11,hF⟩:=Aai hF;have h11_:=AbA h11;try simp at h11_
     have h10_:=h10;try simp at h10_
     rcases IFo hF with ⟨h12,hF⟩|⟨h12,hF⟩
     ·have h12_:=h12;try simp at h12_
      have F3:=A9 F1 h7 h7_ h8 h8_ h9 h10 h11 (A4 h11_ h10_ h12 h12_);try simp [F3]
      and_intros <;> first | exact GK g | apply r | omega | (simp [maxLen,F3] <;> omega)
      refine hK4 _ _ _ ?_;refine RN h0 [] [(0,Q0 v0),(3,Iz v2),(49,.bool true)] [] 0 (by simp [F3]) (by simp [F3]) ?_;exact JN (true) hF (by simp [F3]) (by simp [F3])
     ·have h12_:=h12;try simp at h12_
      rcases IFo hF with ⟨h13,hF⟩|⟨h13,hF⟩
      ·have h13_:=h13;try simp at h13_
       have F4:=A9 F1 h7 h7_ h8 h8_ h9 h10 h11 (A6 h11_ h10_ h12 h12_ h13 h13_);try simp [F4]
       and_intros <;> first | exact GK g | apply r | omega | (simp [maxLen,F4] <;> omega)
       refine hK4 _ _ _ ?_;refine RN h0 [] [(0,Q0 v0),(3,Iz v2),(49,.bool true)] [] 0 (by simp [F4]) (by simp [F4]) ?_;exact JN (true) hF (by simp [F4]) (by simp [F4])
      ·have h13_:=h13;try simp at h13_
       rcases IFo hF with ⟨h14,hF⟩|⟨h14,hF⟩
       ·have h14_:=h14;try simp at h14_
        have F5:=A9 F1 h7 h7_ h8 h8_ h9 h10 h11 (A8 h11_ h10_ h12 h12_ h13 h13_ h14 h14_);try simp [F5]
        and_intros <;> first | exact GK g | apply r | omega | (simp [maxLen,F5] <;> omega)
        refine hK4 _ _ _ ?_;refine RN h0 [] [(0,Q0 v0),(3,Iz v2),(49,.bool true)] [] 0 (by simp [F5]) (by simp [F5]) ?_;exact JN (true) hF (by simp [F5]) (by simp [F5])
       ·have h14_:=h14;try simp at h14_
        have F6:=A9 F1 h7 h7_ h8 h8_ h9 h10 h11 (A8 h11_ h10_ h12 h12_ h13 h13_ h14 h14_);try simp [F6]
        and_intros <;> first | exact GK g | apply r | omega | (simp [maxLen,F6] <;> omega)
        refine hK4 _ _ _ ?_;refine RN h0 [] [(0,Q0 v0),(3,Iz v2),(49,.bool ((v3.Digest.size : Int) !=32))] [] 0 (by simp [F6]) (by simp [F6]) ?_;exact JN (((v3.Digest.size : Int) !=32)) hF (by simp [F6]) (by simp [F6])
    ·have h8_:=h8;try simp at h8_
     rcases IFo hF with ⟨h15,hF⟩|⟨h15,hF⟩
     ·have h15_:=h15;try simp at h15_
      have F7:=A7 F1 h7 h7_ h8 h8_ h15 h15_;try simp [F7]
      and_intros <;> first | exact GK g | apply r | omega | (simp [maxLen,F7] <;> omega)
      refine hK4 _ _ _ ?_;refine RN h0 [] [(0,Q0 v0),(3,Iz v2),(49,.bool true)] [] 0 (by simp [F7]) (by simp [F7]) ?_;exact JN (true) hF (by simp [F7]) (by simp [F7])
     ·have h15_:=h15;try simp at h15_
      rcases IFo hF with ⟨h16,hF⟩|⟨h16,hF⟩
      ·have h16_:=h16;try simp at h16_
       have F8:=A9 F1 h7 h7_ h8 h8_ h15 h15_ h16 h16_;try simp [F8]
       and_intros <;> first | exact GK g | apply r | omega | (simp [maxLen,F8] <;> omega)
       refine hK4 _ _ _ ?_;refine RN h0 [] [(0,Q0 v0),(3,Iz v2),(49,.bool true)] [] 0 (by simp [F8]) (by simp [F8]) ?_;exact JN (true) hF (by simp [F8]) (by simp [F8])
      ·have h16_:=h16;try simp at h16_
       have F9:=A9 F1 h7 h7_ h8 h8_ h15 h15_ h16 h16_;try simp [F9]
       and_intros <;> first | exact GK g | apply r | omega | (simp [maxLen,F9] <;> omega)
       refine hK4 _ _ _ ?_;refine RN h0 [] [(0,Q0 v0),(3,Iz v2),(49,.bool ((v3.Digest.size : Int) !=32))] [] 0 (by simp [F9]) (by simp [F9]) ?_;exact JN (((v3.Digest.size : Int) !=32)) hF (by simp [F9]) (by simp [F9])
  ·rintro v4 hF
   try dsimp only at hF
   unfold Aag.J2 at hF;rcases IFo hF with ⟨h5,hF⟩|⟨h5,hF⟩
   ·have h5_:=h5;try simp at h5_
    have F10:=A3 F1 h5 h5_;refine CT (by simp [F10] <;> omega) ?_;refine SW F10 [] [none] [0,3,49] [(2,.bool false)] [] [] 0 ?_;cases hF;exact AW.ret (hQ _ _ _ (by simp [Try.f97,F10]) (AaE (by simp [F10]))).1
   ·have h5_:=h5;try simp at h5_
    have F11:=A3 F1 h5 h5_;refine CF (by simp [F11] <;> omega) ?_;refine AW.skip (hK3 _ _ _ ?_);refine RG [] N3 fun _ _ g r=>?_;try simp [F11]
    and_intros <;> first | exact GK g | apply r | omega | (simp [maxLen,F11] <;> omega)
    refine hK1 _ _ _ ?_;exact NX (k':=n1) (IntKind.wrap .i64 (v2+1)) hF (by simp [F11]) (by simp [F11])
 ·have h1_:=h1;try simp at h1_
  refine CF (by simp [h1,h1_] <;> omega) ?_;refine AW.exit ?_;try simp
  refine hK0 _ _ _ ?_;refine SW (A2 h1 h1_) [] [none] [0,3] [(2,.bool true)] [] [] 0 ?_;cases hF;exact AW.ret (hQ _ _ _ (by simp [Try.f97,h1,h1_]) (AaE (by simp [h1,h1_]))).1
abbrev Ae3 (v0 v1 : Int) (v2 : ByteArray) (v3 v4 v5 v6 v7 : Int) (v8 : (List Int)) (v9 : (List AaD)) (v10 : ByteArray) (v11 : Int) (v12 : ByteArray) : Aan := .cells [Iz v0,Iz v1,AV.str v2,Iz v3,Iz v4,Iz v5,Iz v6,Iz v7,Lz v8,Q0 v9,AV.str v10,Iz v11,AV.str v12]
theorem Aex (k : Nat) (v0 v1 : Int) (v2 : ByteArray) (v3 v4 v5 v6 v7 : Int) (v8 : (List Int)) (v9 : (List AaD)) (v10 : ByteArray) (v11 : Int) (v12 : ByteArray) (v13 : Int) (hF : Aav k v0 v1 v2 v3 v4 v5 v6 v7 v8 v9 v10 v11 v12=some v13) :
 AbP Try.prog 54 [AV.agg [AV.int .i64 v0,AV.int .i64 v1,AV.str v2,AV.int .i64 v3,AV.int .i64 v4,AV.int .i64 v5,AV.int .i64 v6,AV.int .i64 v7,AV.lst false false (List.map (AV.int .i64) v8),Q0 v9,AV.str v10,AV.int .i64 v11,AV.str v12]] [] (AV.int .i64 v13) []:=by
 unfold Aav at hF;refine EN Try.func54 ?_;intro c0 w0 Q h0 hQ
 refine WJ [(0,.agg [Iz v0,Iz v1,AV.str v2,Iz v3,Iz v4,Iz v5,Iz v6,Iz v7,Lz v8,Q0 v9,AV.str v10,Iz v11,AV.str v12])] [] 0 (by simp) ?_;refine SW trivial [] N2 [0] [(1,.ptr 0 0)] [] [(0,Ae3 v0 v1 v2 v3 v4 v5 v6 v7 v8 v9 v10 v11 v12)] 1 ?_;refine AW.midF (α:=Unit) (fun _=>Aav.J1 k=some v13) (fun _=>[]) (fun _=>[]) 0 (fun K0 hK0=>?_) ?_
 ·refine AW.block ?_;obtain ⟨v14,h1,hF⟩:=AaG hF;refine CL trivial [] N5 (Afz k _ _ h1) [] [(3,.bool (!v14))] [] [] 1 ?_;rcases IFo hF with ⟨h2,hF⟩|⟨h2,hF⟩
  ·have h2_:=h2;try simp at h2_
   refine CT (by simp [h2,h2_] <;> omega) ?_;refine SW (A2 h2 h2_) [] [none] [1,3] [(2,Iz 4)] [0] [] 1 ?_;cases hF;exact AW.ret (hQ _ _ _ (by simp [Try.f54,h2,h2_]) (AaE (by simp [h2,h2_]))).1
  ·have h2_:=h2;try simp at h2_
   refine CF (by simp [h2,h2_] <;> omega) ?_;refine AW.midF (α:=Bool) (fun v15=>Aav.J2 k v0 v1 v2 v3 v4 v5 v6 v7 v8 v9 v10 v11 v12 v15=some v13) (fun v15=>[(1,.ptr 0 0),(8,.bool v15)]) (fun v15=>[(0,Ae3 v0 v1 v2 v3 v4 v5 v6 v7 v8 v9 v10 v11 v12)]) 1 (fun K1 hK1=>?_) ?_
   ·refine RG [] [none,none,none,none,some (12,false),some (12,false),some (12,false),some (12,false),some (16,true),some (16,true),some (16,true),some (12,false),none,none,some (22,false),some (22,false),some (22,false),none,none] fun _ _ g r=>?_;rcases IFo hF with ⟨h24,hF⟩|⟨h24,hF⟩
    ·have h24_:=h24;try simp at h24_
     have F1:=A4 h2 h2_ h24 h24_;try simp [F1]
     and_intros <;> first | exact GK g | apply r | omega | (simp [maxLen,F1] <;> omega)
     refine hK1 _ _ _ ?_;exact JN (true) hF (by simp [F1]) (by simp [F1])
    ·have h24_:=h24;try simp at h24_
     rcases IFo hF with ⟨h25,hF⟩|⟨h25,hF⟩
     ·have h25_:=h25;try simp at h25_
      rcases IFo hF with ⟨h26,hF⟩|⟨h26,hF⟩
      ·have h26_:=h26;try simp at h26_
       have F2:=A8 h2 h2_ h24 h24_ h25 h25_ h26 h26_;try simp [F2]
       and_intros <;> first | exact GK g | apply r | omega | (simp [maxLen,F2] <;> omega)
       refine hK1 _ _ _ ?_;exact JN (true) hF (by simp [F2]) (by simp [F2])
      ·have h26_:=h26;try simp at h26_
       have F3:=A8 h2 h2_ h24 h24_ h25 h25_ h26 h26_;try simp [F3]
       and_intros <;> first | exact GK g | apply r | omega | (simp [maxLen,F3] <;> omega)
       refine hK1 _ _ _ ?_;exact JN ((decide (31<v4))) hF (by simp [F3]) (by simp [F3])
     ·have h25_:=h25;try simp at h25_
      have F4:=A6 h2 h2_ h24 h24_ h25 h25_;try simp [F4]
      and_intros <;> first | exact GK g | apply r | omega | (simp [maxLen,F4] <;> omega)
      refine hK1 _ _ _ ?_;exact JN ((decide (31<v4))) hF (by simp [F4]) (by simp [F4])
   ·rintro v15 hF
    try dsimp only at hF
    unfold Aav.J2 at hF;rcases IFo hF with ⟨h3,hF⟩|⟨h3,hF⟩
    ·have h3_:=h3;try simp at h3_
     have F5:=A4 h2 h2_ h3 h3_;refine CT (by simp [F5] <;> omega) ?_;refine SW F5 [] [none] [1,8] [(2,Iz 5)] [0] [] 1 ?_;cases hF;exact AW.ret (hQ _ _ _ (by simp [Try.f54,F5]) (AaE (by simp [F5]))).1
    ·have h3_:=h3;try simp at h3_
     have F6:=A4 h2 h2_ h3 h3_;refine CF (by simp [F6] <;> omega) ?_;obtain ⟨v16,h4,hF⟩:=AaG hF;refine CL F6 [] N5 (Ade k _ _ _ h4) [8] [(27,.bool (!v16))] [] [] 1 ?_;rcases IFo hF with ⟨h5,hF⟩|⟨h5,hF⟩
     ·have h5_:=h5;try simp at h5_
      have F7:=A3 F6 h5 h5_;refine CT (by simp [F7] <;> omega) ?_;refine SW F7 [] [none] [1,27] [(2,Iz 9)] [0] [] 1 ?_;cases hF;exact AW.ret (hQ _ _ _ (by simp [Try.f54,F7]) (AaE (by simp [F7]))).1
     ·have h5_:=h5;try simp at h5_
      have F8:=A3 F6 h5 h5_;refine CF (by simp [F8] <;> omega) ?_;obtain ⟨v17,h6,hF⟩:=AaG hF;refine CL F8 [] N4 (AhR k _ _ _ _ _ _ _ _ _ _ _ _ _ _ h6) [27] [(32,.bool (!v17))] [] [] 1 ?_;rcases IFo hF with ⟨h7,hF⟩|⟨h7,hF⟩
      ·have h7_:=h7;try simp at h7_
       have F9:=A3 F8 h7 h7_;refine CT (by simp [F9] <;> omega) ?_;refine SW F9 [] [none] [1,32] [(2,Iz 2)] [0] [] 1 ?_;cases hF;exact AW.ret (hQ _ _ _ (by simp [Try.f54,F9]) (AaE (by simp [F9]))).1
      ·have h7_:=h7;try simp at h7_
       have F10:=A3 F8 h7 h7_;refine CF (by simp [F10] <;> omega) ?_;refine SR [] [none,none,none,none,none,some (41,false),some (41,false),some (41,false),some (41,false),none,none,some (47,false),some (47,false),some (47,false),some (47,false),none,none] fun _ _ g r=>?_;rcases IFo hF with ⟨h8,hF⟩|⟨h8,hF⟩
       ·have h8_:=h8;try simp at h8_
        have F11:=A3 F10 h8 h8_;refine TL F11 g r [32] [(36,.bool true)] [] [] 1 ?_;refine CT (by simp [F11]) ?_;refine SW F11 [] [none] [1,36] [(2,Iz 3)] [0] [] 1 ?_;cases hF;exact AW.ret (hQ _ _ _ (by simp [Try.f54,F11]) (AaE (by simp [F11]))).1
       ·have h8_:=h8;try simp at h8_
        rcases IFo hF with ⟨h9,hF⟩|⟨h9,hF⟩
        ·have h9_:=h9;try simp at h9_
         have F12:=A5 F10 h8 h8_ h9 h9_;refine TL F12 g r [32] [(36,.bool true)] [] [] 1 ?_;refine CT (by simp [F12]) ?_;refine SW F12 [] [none] [1,36] [(2,Iz 3)] [0] [] 1 ?_;cases hF;exact AW.ret (hQ _ _ _ (by simp [Try.f54,F12]) (AaE (by simp [F12]))).1
        ·have h9_:=h9;try simp at h9_
         have F13:=A5 F10 h8 h8_ h9 h9_;refine TL F13 g r [32] [(36,.bool (decide (4096<(v10.size : Int))))] [] [] 1 ?_;rcases IFo hF with ⟨h10,hF⟩|⟨h10,hF⟩
         ·have h10_:=h10;try simp at h10_
          have F14:=A3 F13 h10 h10_;refine CT (by simp [F14] <;> omega) ?_;refine SW F14 [] [none] [1,36] [(2,Iz 3)] [0] [] 1 ?_;cases hF;exact AW.ret (hQ _ _ _ (by simp [Try.f54,F14]) (AaE (by simp [F14]))).1
         ·have h10_:=h10;try simp at h10_
          have F15:=A3 F13 h10 h10_;refine CF (by simp [F15] <;> omega) ?_;refine AW.midF (α:=Bool) (fun v18=>Aav.J3 k v4 v8 v9 v10 v18=some v13) (fun v18=>[(1,.ptr 0 0),(53,.bool v18)]) (fun v18=>[(0,Ae3 v0 v1 v2 v3 v4 v5 v6 v7 v8 v9 v10 v11 v12)]) 1 (fun K2 hK2=>?_) ?_
          ·refine RG [] [none,none,none,none,some (57,true),some (57,true),some (57,true),none,none,some (62,false),some (62,false),some (62,false),some (62,false),some (66,true),some (66,true),some (66,true),some (66,true),some (62,false),none,none,some (73,false),some (73,false),some (73,false),some (73,false),none,none] fun _ _ g r=>?_;rcases IFo hF with ⟨h16,hF⟩|⟨h16,hF⟩
           ·have h16q : v1=0:=h16;have h16_:=Abf h16q;have h16__:=Abe h16q;rcases IFo hF with ⟨h17,hF⟩|⟨h17,hF⟩
            ·have h17_:=h17;try simp at h17_
             have F16:=A6 F15 h16_ h16__ h16q h17 h17_;try simp [F16]
             and_intros <;> first | exact GK g | apply r | omega | (simp [maxLen,F16] <;> omega)
             refine hK2 _ _ _ ?_;exact JN (true) hF (by simp [F16]) (by simp [F16])
            ·have h17_:=h17;try simp at h17_
             rcases IFo hF with ⟨h18,hF⟩|⟨h18,hF⟩
             ·have h18_:=h18;try simp at h18_
              cases hF
             ·have h18_:=h18;try simp at h18_
              have F17:=A8 F15 h16_ h16__ h16q h17 h17_ h18 h18_;try simp [F17]
              and_intros
              try any_goals first | omega | (simp [maxLen,F17] <;> omega)
              obtain ⟨v19,h19,hF⟩:=AaG hF;refine AC (Aed k _ _ h19) (.cons (.same (by simp [F17])) .nil) ?_;try simp [F17]
              and_intros <;> first | exact GK g | apply r | omega | (simp [maxLen,F17] <;> omega)
              refine hK2 _ _ _ ?_;exact JN ((!v19)) hF (by simp [F17]) (by simp [F17])
           ·have h16_:=Aba h16;have h16__:=Abd h16;rcases IFo hF with ⟨h20,hF⟩|⟨h20,hF⟩
            ·have h20_:=h20;try simp at h20_
             rcases IFo hF with ⟨h21,hF⟩|⟨h21,hF⟩
             ·have h21_:=Aba h21;have h21__:=Abd h21;have F18:=A9 F15 h16 h16_ h16__ h20 h20_ h21 h21_ h21__;try simp [F18]
              and_intros <;> first | exact GK g | apply r | omega | (simp [maxLen,F18] <;> omega)
              refine hK2 _ _ _ ?_;exact JN (true) hF (by simp [F18]) (by simp [F18])
             ·have h21q : (v2.size : Int)=32:=Classical.not_not.1 h21;have h21_:=Abf h21q;have h21__:=Abe h21q;have F19:=A9 F15 h16 h16_ h16__ h20 h20_ h21_ h21__ h21q;try simp [F19]
              and_intros
              try any_goals first | omega | (simp [maxLen,F19] <;> omega)
              obtain ⟨v20,h22,hF⟩:=AaG hF;refine AC (Aed k _ _ h22) (.cons (.same (by simp [F19])) .nil) ?_;try simp [F19]
              and_intros <;> first | exact GK g | apply r | omega | (simp [maxLen,F19] <;> omega)
              refine hK2 _ _ _ ?_;exact JN ((!v20)) hF (by simp [F19]) (by simp [F19])
            ·have h20_:=h20;try simp at h20_
             have F20:=A6 F15 h16 h16_ h16__ h20 h20_;try simp [F20]
             and_intros
             try any_goals first | omega | (simp [maxLen,F20] <;> omega)
             obtain ⟨v21,h23,hF⟩:=AaG hF;refine AC (Aed k _ _ h23) (.cons (.same (by simp [F20])) .nil) ?_;try simp [F20]
             and_intros <;> first | exact GK g | apply r | omega | (simp [maxLen,F20] <;> omega)
             refine hK2 _ _ _ ?_;exact JN ((!v21)) hF (by simp [F20]) (by simp [F20])
          ·rintro v18 hF
           try dsimp only at hF
           unfold Aav.J3 at hF;rcases IFo hF with ⟨h11,hF⟩|⟨h11,hF⟩
           ·have h11_:=h11;try simp at h11_
            have F21:=A3 F15 h11 h11_;refine CT (by simp [F21] <;> omega) ?_;refine SW F21 [] [none] [1,53] [(2,Iz 1)] [0] [] 1 ?_;cases hF;exact AW.ret (hQ _ _ _ (by simp [Try.f54,F21]) (AaE (by simp [F21]))).1
           ·have h11_:=h11;try simp at h11_
            have F22:=A3 F15 h11 h11_;refine CF (by simp [F22] <;> omega) ?_;refine SR [] [none,none,none,none,some (83,true),some (83,true),some (83,true),some (83,true),some (83,true),some (88,false),some (88,false),some (88,false),some (88,false),some (83,true),some (83,true),some (94,false),some (94,false),some (94,false),some (83,true),none,none] fun _ _ g r=>?_;rcases IFo hF with ⟨h12,hF⟩|⟨h12,hF⟩
            ·have h12_:=h12;try simp at h12_
             rcases IFo hF with ⟨h13,hF⟩|⟨h13,hF⟩
             ·have h13_:=h13;try simp at h13_
              have F23:=A5 F22 h12 h12_ h13 h13_;refine TL F23 g r [1,53] [(79,.bool true)] [0] [] 1 ?_;refine CT (by simp [F23]) ?_;refine SW F23 [] [none] [79] [(2,Iz 1)] [] [] 1 ?_;cases hF;exact AW.ret (hQ _ _ _ (by simp [Try.f54,F23]) (AaE (by simp [F23]))).1
             ·have h13_:=h13;try simp at h13_
              rcases IFo hF with ⟨h14,hF⟩|⟨h14,hF⟩
              ·have h14_:=h14;try simp at h14_
               have F24:=A7 F22 h12 h12_ h13 h13_ h14 h14_;refine TL F24 g r [1,53] [(79,.bool true)] [0] [] 1 ?_;refine CT (by simp [F24]) ?_;refine SW F24 [] [none] [79] [(2,Iz 1)] [] [] 1 ?_;cases hF;exact AW.ret (hQ _ _ _ (by simp [Try.f54,F24]) (AaE (by simp [F24]))).1
              ·have h14_:=h14;try simp at h14_
               have F25:=A7 F22 h12 h12_ h13 h13_ h14 h14_;refine TL F25 g r [1,53] [(79,.bool (!Abo v10 (ByteArray.mk #[])))] [0] [] 1 ?_;rcases IFo hF with ⟨h15,hF⟩|⟨h15,hF⟩
               ·have h15_:=h15;try simp at h15_
                have F26:=A3 F25 h15 h15_;refine CT (by simp [F26] <;> omega) ?_;refine SW F26 [] [none] [79] [(2,Iz 1)] [] [] 1 ?_;cases hF;exact AW.ret (hQ _ _ _ (by simp [Try.f54,F26]) (AaE (by simp [F26]))).1
               ·have h15_:=h15;try simp at h15_
                have F27:=A3 F25 h15 h15_;refine CF (by simp [F27] <;> omega) ?_;refine AW.skip (hK0 _ _ _ ?_);refine RN h0 [] [] [] 0 (by simp [F27]) (by simp [F27]) ?_;exact JN (()) hF (by simp [F27]) (by simp [F27])
            ·have h12_:=h12;try simp at h12_
             have F28:=A3 F22 h12 h12_;refine TL F28 g r [1,53] [(79,.bool false)] [0] [] 1 ?_;refine CF (by simp [F28]) ?_;refine AW.skip (hK0 _ _ _ ?_);refine RN h0 [] [] [] 0 (by simp [F28]) (by simp [F28]) ?_;exact JN (()) hF (by simp [F28]) (by simp [F28])
 ·rintro ⟨⟩ hF
  try dsimp only at hF
  unfold Aav.J1 at hF;refine SW trivial [] [none] [] [(2,Iz 0)] [] [] 0 ?_;cases hF;refine AW.ret (hQ _ _ _ ?_ (AaE ?_)).1
  ·simp [Try.f54]
  ·simp
theorem Aec (k : Nat) (v0 v1 : Int) (v2 : ByteArray) (v3 v4 v5 v6 v7 : Int) (v8 : (List Int)) (v9 : (List AaD)) (v10 : ByteArray) (v11 : Int) (v12 : ByteArray) (v13 : Bool) (hF : Aci k v0 v1 v2 v3 v4 v5 v6 v7 v8 v9 v10 v11 v12=some v13) :
 AbP Try.prog 58 [AV.agg [AV.int .i64 v0,AV.int .i64 v1,AV.str v2,AV.int .i64 v3,AV.int .i64 v4,AV.int .i64 v5,AV.int .i64 v6,AV.int .i64 v7,AV.lst false false (List.map (AV.int .i64) v8),Q0 v9,AV.str v10,AV.int .i64 v11,AV.str v12]] [] (AV.bool v13) []:=by
 unfold Aci at hF;refine EN Try.func58 ?_;intro c0 w0 Q h0 hQ
 refine WJ [(0,.agg [Iz v0,Iz v1,AV.str v2,Iz v3,Iz v4,Iz v5,Iz v6,Iz v7,Lz v8,Q0 v9,AV.str v10,Iz v11,AV.str v12])] [] 0 (by simp) ?_;refine SW trivial [] N2 [0] [(1,.ptr 0 0)] [] [(0,.cells [Iz v0,Iz v1,AV.str v2,Iz v3,Iz v4,Iz v5,Iz v6,Iz v7,Lz v8,Q0 v9,AV.str v10,Iz v11,AV.str v12])] 1 ?_;refine SR [] [none,none,none,none,none,none,none,some (9,true),some (9,true),some (9,true),some (9,true),some (9,true),some (9,true),none,none] fun _ _ g r=>?_;rcases IFo hF with ⟨h1,hF⟩|⟨h1,hF⟩
 ·have h1q : v11=v0:=h1;have h1_:=Abf h1q;have h1__:=Abe h1q;try simp [h1_,h1__]
  and_intros
  try any_goals first | omega | (simp [h1_,h1__,maxLen] <;> omega)
  obtain ⟨v14,h2,hF⟩:=AaG hF;refine AC (Ado k _ _ _ _ _ _ _ _ _ _ _ _ _ _ h2) (.cons (.same (by simp [h1_,h1__])) .nil) ?_;refine TL (A2 h1_ h1__) g r [1] [(2,.bool (Abo v12 v14))] [0] [] 1 ?_;cases hF;exact AW.ret (hQ _ _ _ (by simp [Try.f58,h1_,h1__]) (AaE (by simp [h1_,h1__]))).1
 ·have h1_:=Aba h1;have h1__:=Abd h1;have F1:=A3 h1 h1_ h1__;refine TL F1 g r [1] [(2,.bool false)] [0] [] 1 ?_;cases hF;exact AW.ret (hQ _ _ _ (by simp [Try.f58,F1]) (AaE (by simp [F1]))).1
theorem Aee (k : Nat) (v0 v1 : Int) (v2 : ByteArray) (v3 v4 v5 v6 v7 : Int) (v8 : (List Int)) (v9 : (List AaD)) (v10 : ByteArray) (v11 : Int) (v12 : ByteArray) (v13 : (List Int)) (v14 : Int) (hF : Ack k v0 v1 v2 v3 v4 v5 v6 v7 v8 v9 v10 v11 v12=some (v13,v14)) :
 AbP Try.prog 31 [AV.agg [AV.int .i64 v0,AV.int .i64 v1,AV.str v2,AV.int .i64 v3,AV.int .i64 v4,AV.int .i64 v5,AV.int .i64 v6,AV.int .i64 v7,AV.lst false false (List.map (AV.int .i64) v8),Q0 v9,AV.str v10,AV.int .i64 v11,AV.str v12]] [] (AV.tup [Sc 0 v13,AV.int .i64 v14]) [some (.grow (List.map (AV.int .u8) v13))]:=by
 unfold Ack at hF;refine EN Try.func31 ?_;intro c0 w0 Q h0 hQ
 refine WJ [(0,.agg [Iz v0,Iz v1,AV.str v2,Iz v3,Iz v4,Iz v5,Iz v6,Iz v7,Lz v8,Q0 v9,AV.str v10,Iz v11,AV.str v12])] [] 0 (by simp) ?_;refine SW trivial [] N3 [0] [(1,.ptr 0 0)] [] [(0,.cells [Iz v0,Iz v1,AV.str v2,Iz v3,Iz v4,Iz v5,Iz v6,Iz v7,Lz v8,Q0 v9,AV.str v10,Iz v11,AV.str v12])] 1 ?_;refine AW.seq fun K0 hK0=>?_;obtain ⟨v15,h1,hF⟩:=AaG hF;refine CL trivial [] N3 (Aex k _ _ _ _ _ _ _ _ _ _ _ _ _ _ h1) [] [(4,Iz v15)] [] [] 1 ?_;refine SW trivial [] N2 [] [(8,.bool (v15 !=0))] [] [] 1 ?_;rcases IFo hF with ⟨h2,hF⟩|⟨h2,hF⟩
 ·have h2_:=Aba h2;have h2__:=Abd h2;have F1:=A3 h2 h2_ h2__;refine CT (by simp [F1] <;> omega) ?_;refine SW F1 [] N3 [1,4,8] [(2,.lst true true (List.map (AV.int .u8) ([] : List Int))),(3,Iz v15)] [0] [] 1 ?_;refine AW.own' 2 1 true (by simp [F1]) (by decide) ?_;refine RM h0 [(0,1)] [(2,.slc 0 0 1 (([] : List Int).length) false),(3,Iz v15)] [(0,.grow (List.map (AV.int .u8) ([] : List Int)))] 1 (by simp [F1]) (by simp [F1]) ?_;simp only [Option.some.injEq,Prod.mk.injEq] at hF;obtain ⟨e0,e1⟩:=hF;subst e0 e1;exact AW.ret (hQ _ _ _ (by simp [Try.f31,F1]) (AaE (by simp [F1]))).1
 ·have h2q : v15=0:=Classical.not_not.1 h2;have h2_:=Abf h2q;have h2__:=Abe h2q;have F2:=A3 h2_ h2__ h2q;refine CF (by simp [F2] <;> omega) ?_;refine AW.skip (hK0 _ _ _ ?_);refine AW.seq fun K1 hK1=>?_;obtain ⟨v16,h3,hF⟩:=AaG hF;refine CL F2 [] N3 (Aec k _ _ _ _ _ _ _ _ _ _ _ _ _ _ h3) [4,8] [(12,.bool (!v16))] [] [] 1 ?_;rcases IFo hF with ⟨h4,hF⟩|⟨h4,hF⟩
  ·have h4_:=h4;try simp at h4_
   have F3:=A3 F2 h4 h4_;refine CT (by simp [F3] <;> omega) ?_;refine SW F3 [] N2 [1,12] [(2,.lst true true (List.map (AV.int .u8) ([] : List Int))),(3,Iz 6)] [0] [] 1 ?_;refine AW.own' 2 1 true (by simp [F3]) (by decide) ?_;refine RM h0 [(0,1)] [(2,.slc 0 0 1 (([] : List Int).length) false),(3,Iz 6)] [(0,.grow (List.map (AV.int .u8) ([] : List Int)))] 1 (by simp [F3]) (by simp [F3]) ?_;simp only [Option.some.injEq,Prod.mk.injEq] at hF;obtain ⟨e0,e1⟩:=hF;subst e0 e1;exact AW.ret (hQ _ _ _ (by simp [Try.f31,F3]) (AaE (by simp [F3]))).1
  ·have h4_:=h4;try simp at h4_
   have F4:=A3 F2 h4 h4_;refine CF (by simp [F4] <;> omega) ?_;refine AW.skip (hK1 _ _ _ ?_);refine SQ [] N12 fun _ _ g r=>?_;try simp [F4]
   and_intros
   try any_goals first | omega | (simp [maxLen,F4] <;> omega)
   obtain ⟨v17,h5,hF⟩:=AaG hF;refine AC (Aey k _ _ _ _ _ _ _ _ _ _ _ _ _ _ h5) (.cons (.same (by simp [F4])) .nil) ?_;try simp [F4]
   and_intros
   try any_goals first | omega | (simp [maxLen,F4] <;> omega)
   obtain ⟨v18,h6,hF⟩:=AaG hF;refine AaO (AcV k _ _ _ h6) (by simp) [] [1] [] rfl (.cons (Coe.l (o := .grow (List.map (AV.int .u8) v17)) (by simp [F4]) rfl (by simp [F4]) (by simp [AcA]) (by simp [F4]) (by simp [F4])) (.cons (.same (by simp [F4])) .nil)) (by simp [F4]) (by decide) (by simp) (by simp) (.inr ⟨by simp,by simp⟩) (by simp) (by simp) ?_;try simp [F4]
   and_intros
   try any_goals first | omega | (simp [maxLen,F4] <;> omega)
   obtain ⟨v19,h7,hF⟩:=AaG hF;refine AaO (AeR k _ _ _ h7) (by simp) [] [2] [] rfl (.cons (Coe.l (o := .grow (List.map (AV.int .u8) v18)) (by simp [F4]) rfl (by simp [F4]) (by simp [AcA]) (by simp [F4]) (by simp [F4])) (.cons (.same (by simp [F4])) .nil)) (by simp [F4]) (by decide) (by simp) (by simp) (.inr ⟨by simp,by simp⟩) (by simp) (by simp) ?_;try simp [F4]
   and_intros <;> first | exact GK g | apply r | omega | (simp [maxLen,F4] <;> omega)
   refine RM h0 [(0,3)] [(2,Sc 0 v19),(3,Iz 0)] [(0,.grow (List.map (AV.int .u8) v19))] 1 (by simp [F4]) (by simp [F4]) ?_;simp only [Option.some.injEq,Prod.mk.injEq] at hF;obtain ⟨e0,e1⟩:=hF;subst e0 e1;exact AW.ret (hQ _ _ _ (by simp [Try.f31,F4]) (AaE (by simp [F4]))).1
theorem Agq (k : Nat) (v0 v1 : (List Int)) (hF : AeE k v0=some v1) :
 AbP Try.prog 127 [AV.lst false false (List.map (AV.int .u8) v0)] [] (Sc 0 v1) [some (.grow (List.map (AV.int .u8) v1))]:=by
 unfold AeE at hF;refine EN Try.func127 ?_;intro c0 w0 Q h0 hQ
 refine WJ [(0,Lb v0)] [] 0 (by simp) ?_;refine SW trivial [] [none] [] [] [] [] 0 ?_;refine SR [4] N3 fun _ _ g r=>?_;obtain ⟨h1,hF⟩:=AaP hF;have h1_:=h1;try simp at h1_
 refine TL h1 g r [0] [(2,Sc 0 v0)] [] [(0,.grow (List.map (AV.int .u8) v0))] 1 ?_;cases hF;exact AW.ret (hQ _ _ _ (by simp [Try.f127,h1]) (AaE (by simp [h1]))).1
theorem AdW (k : Nat) (v0 : (List Int)) (v1 : Int) (v2 : (List Int)) (v3 : Bool) (hF : AbN k v0=some (v1,v2,v3)) :
 AbP Try.prog 119 [AV.lst false false (List.map (AV.int .u8) v0)] [] (AV.tup [AV.int .i64 v1,Sc 0 v2,AV.bool v3]) [some (.grow (List.map (AV.int .u8) v2))]:=by
 unfold AbN at hF;refine EN Try.func119 ?_;intro c0 w0 Q h0 hQ
 refine WJ [(0,Lb v0)] [] 0 (by simp) ?_;refine SW trivial [] N3 [] [] [] [] 0 ?_;refine AW.seq fun K0 hK0=>?_;refine SW trivial [] N3 [] [(9,.bool (decide ((v0.length : Int)<8)))] [] [] 0 ?_;rcases IFo hF with ⟨h1,hF⟩|⟨h1,hF⟩
 ·have h1_:=h1;try simp at h1_
  refine CT (by simp [h1,h1_] <;> omega) ?_;refine SW (A2 h1 h1_) [] N3 [0,9] [(2,Iz 0),(3,.lst true true (List.map (AV.int .u8) ([] : List Int))),(4,.bool false)] [] [] 0 ?_;refine AW.own' 3 1 true (by simp [h1,h1_]) (by decide) ?_;simp only [Option.some.injEq,Prod.mk.injEq] at hF;obtain ⟨e0,e1,e2⟩:=hF;subst e0 e1 e2;exact AW.ret (hQ _ _ _ (by simp [Try.f119,h1,h1_]) (AaE (by simp [h1,h1_]))).1
 ·have h1_:=h1;try simp at h1_
  refine CF (by simp [h1,h1_] <;> omega) ?_;refine AW.skip (hK0 _ _ _ ?_);refine SW (A2 h1 h1_) [] [none] [9] [(5,.int .u64 0)] [] [] 0 ?_;refine AW.seq fun K1 hK1=>?_;refine SW (A2 h1 h1_) [] [none] [] [(6,Iz 0)] [] [] 0 ?_;refine AW.block ?_;refine AW.loopF (α:=(Int×Int)) (fun n (v4,v5)=>AbN.L1 k v0 n v4 v5=some (v1,v2,v3)) (fun (v4,v5)=>[(0,Lb v0),(5,.int .u64 v4),(6,Iz v5)]) (fun (v4,v5)=>[]) 0 k ((0,0)) hF (by simp [h1,h1_]) (by simp [h1,h1_]) (by simp) ?_;rintro (_|n1) ⟨v4,v5⟩ hF K2 hK2
  ·try dsimp only at hF
   rw [AbN.L1] at hF; cases hF
  try dsimp only at hF
  rw [AbN.L1] at hF;refine AW.seq fun K3 hK3=>?_;refine SW (A2 h1 h1_) [] N2 [] [(11,.bool (decide (v5<8)))] [] [] 0 ?_;rcases IFo hF with ⟨h2,hF⟩|⟨h2,hF⟩
  ·have h2_:=h2;try simp at h2_
   have F1:=A4 h1 h1_ h2 h2_;refine CT (by simp [F1] <;> omega) ?_;refine AW.skip (hK3 _ _ _ ?_);refine AW.seq fun K4 hK4=>?_;refine AW.block ?_;refine RG [] N9 fun _ _ g r=>?_;obtain ⟨v6,h3,h4,h5,hF⟩:=Aai hF;have h5_:=AbA h5;try simp at h5_
   have h4_:=h4;try simp at h4_
   have F2:=A6 F1 h3 h4 h5 h5_ h4_;try simp [F2]
   and_intros <;> first | exact GK g | apply r | omega | (simp [maxLen,F2] <;> omega)
   refine hK4 _ _ _ ?_;refine WJ [(0,Lb v0),(5,.int .u64 (AaK .or .u64 (IntKind.wrap .u64 (v4*2 ^ (8))) (IntKind.wrap .u64 v6))),(6,Iz v5)] [] 0 (by simp [F2]) ?_;refine RG [] N3 fun _ _ g r=>?_;try simp [F2]
   and_intros <;> first | exact GK g | apply r | omega | (simp [maxLen,F2] <;> omega)
   refine hK2 _ _ _ ?_;exact NX (k':=n1) ((AaK .or .u64 (IntKind.wrap .u64 (v4*2 ^ (8))) (IntKind.wrap .u64 v6),IntKind.wrap .i64 (v5+1))) hF (by simp [F2]) (by simp [F2])
  ·have h2_:=h2;try simp at h2_
   have F3:=A4 h1 h1_ h2 h2_;refine CF (by simp [F3] <;> omega) ?_;refine AW.exit ?_;try simp
   refine hK1 _ _ _ ?_;refine SR [] N8 fun _ _ g r=>?_;obtain ⟨h6,hF⟩:=AaP hF;have h6_:=h6;try simp at h6_
   have F4:=A3 F3 h6 h6_;try simp [F4]
   and_intros
   try any_goals first | omega | (simp [maxLen,F4] <;> omega)
   obtain ⟨v7,h7,hF⟩:=AaG hF;refine AC (Agq k _ _ h7) (.cons (.same (by simp [F4])) .nil) ?_;refine TL F4 g r [0,5,6] [(2,Iz (IntKind.wrap .i64 v4)),(3,Sc 0 v7),(4,.bool true)] [] [(0,.grow (List.map (AV.int .u8) v7))] 1 ?_;simp only [Option.some.injEq,Prod.mk.injEq] at hF;obtain ⟨e0,e1,e2⟩:=hF;subst e0 e1 e2;exact AW.ret (hQ _ _ _ (by simp [Try.f119,F4]) (AaE (by simp [F4]))).1
theorem AbM (k : Nat) (v0 : (List Int)) (v1 : Bool) (v2 : Int) (v3 : (List Int)) (v4 : Bool) (hF : Aa1 k v0 v1=some (v2,v3,v4)) :
 AbP Try.prog 102 [AV.ptr 0 0] [.cells [AV.lst false false (List.map (AV.int .u8) v0),AV.bool v1]] (AV.int .i64 v2) [some (.cells [AV.lst false false (List.map (AV.int .u8) v3),AV.bool v4])]:=by
 unfold Aa1 at hF;refine EN Try.func102 ?_;intro c0 w0 Q h0 hQ
 refine WJ [(0,.ptr 0 0)] [(0,.cells [Lb v0,AV.bool v1])] 1 (by simp) ?_;refine SW trivial [] [none] [] [] [] [] 1 ?_;obtain ⟨v5,v6,v7,h1,hF⟩:=AbK hF;refine CL trivial [] N12 (AdW k _ _ _ _ h1) [] [(3,Iz v5),(4,Sc 1 v6),(5,.bool v7)] [] [(1,.grow (List.map (AV.int .u8) v6))] 2 ?_;refine AW.frz 1 (o := .grow (List.map (AV.int .u8) v6)) (by simp) rfl [(4,Lb v6)] [] ⟨(.l (by simp) (by simp) (by simp) (by simp)),trivial⟩ trivial ?_;refine WJ [(0,.ptr 0 0),(3,Iz v5),(4,Lb v6),(5,.bool v7)] [(0,.cells [Lb v0,AV.bool v1])] 2 (by simp) ?_;refine SR [] [none,none,none,none,none,none,none,none,some (22,true),none,none,none,none,none,none,none] fun _ _ g r=>?_;rcases IFo hF with ⟨h2,hF⟩|⟨h2,hF⟩
 ·have h2_:=h2;try simp at h2_
  refine TL (A2 h2 h2_) g r [0,4,5] [] [0] [(0,.cells [Lb v6,AV.bool v7])] 2 ?_;refine SW (A2 h2 h2_) [] N2 [3] [(2,Iz v5)] [] [] 2 ?_;simp only [Option.some.injEq,Prod.mk.injEq] at hF;obtain ⟨e0,e1,e2⟩:=hF;subst e0 e1 e2;exact AW.ret (hQ _ _ _ (by simp [Try.f102,h2,h2_]) (AaE (by simp [h2,h2_]))).1
 ·have h2_:=h2;try simp at h2_
  refine TL (A2 h2 h2_) g r [0,4,5] [] [0] [(0,.cells [Lb v6,AV.bool false])] 2 ?_;refine SW (A2 h2 h2_) [] N2 [3] [(2,Iz v5)] [] [] 2 ?_;simp only [Option.some.injEq,Prod.mk.injEq] at hF;obtain ⟨e0,e1,e2⟩:=hF;subst e0 e1 e2;exact AW.ret (hQ _ _ _ (by simp [Try.f102,h2,h2_]) (AaE (by simp [h2,h2_]))).1
theorem Ag7 (k : Nat) (v0 : (List Int)) (v1 : Int) (v2 : ByteArray) (v3 : (List Int)) (v4 : Bool) (hF : AdG k v0 v1=some (v2,v3,v4)) :
 AbP Try.prog 120 [AV.lst false false (List.map (AV.int .u8) v0),AV.int .i64 v1] [] (AV.tup [AV.str v2,Sc 0 v3,AV.bool v4]) [some (.grow (List.map (AV.int .u8) v3))]:=by
 unfold AdG at hF;refine EN Try.func120 ?_;intro c0 w0 Q h0 hQ
 refine WJ [(0,Lb v0),(1,Iz v1)] [] 0 (by simp) ?_;refine SW trivial [] N3 [] [] [] [] 0 ?_;obtain ⟨v5,v6,v7,h1,hF⟩:=AbK hF;refine CL trivial [] N9 (AdW k _ _ _ _ h1) [0] [(0,Sc 0 v6),(7,Iz v5),(8,.bool v7)] [] [(0,.grow (List.map (AV.int .u8) v6))] 1 ?_;refine AW.frz 0 (o := .grow (List.map (AV.int .u8) v6)) (by simp) rfl [(0,Lb v6)] [] ⟨(.l (by simp) (by simp) (by simp) (by simp)),trivial⟩ trivial ?_;refine WJ [(0,Lb v6),(1,Iz v1),(7,Iz v5),(8,.bool v7)] [] 1 (by simp) ?_;refine AW.seq fun K0 hK0=>?_;refine SR [] [none,none,none,some (17,false),some (17,false),none,none,some (21,false),some (21,false),some (21,false),none,none,some (26,false),some (26,false),some (26,false),some (26,false),none] fun _ _ g r=>?_;rcases IFo hF with ⟨h2,hF⟩|⟨h2,hF⟩
 ·have h2_:=h2;try simp at h2_
  refine TL (A2 h2 h2_) g r [1,8] [(31,.bool true)] [] [] 1 ?_;refine CT (by simp [h2,h2_]) ?_;refine SW (A2 h2 h2_) [] N3 [0,7,31] [(4,.str (ByteArray.mk #[])),(5,.lst true true (List.map (AV.int .u8) ([] : List Int))),(6,.bool false)] [] [] 1 ?_;refine AW.own' 5 1 true (by simp [h2,h2_]) (by decide) ?_;refine RM h0 [(0,1)] [(4,.str (ByteArray.mk #[])),(5,.slc 0 0 1 (([] : List Int).length) false),(6,.bool false)] [(0,.grow (List.map (AV.int .u8) ([] : List Int)))] 1 (by simp [h2,h2_]) (by simp [h2,h2_]) ?_;simp only [Option.some.injEq,Prod.mk.injEq] at hF;obtain ⟨e0,e1,e2⟩:=hF;subst e0 e1 e2;exact AW.ret (hQ _ _ _ (by simp [Try.f120,h2,h2_]) (AaE (by simp [h2,h2_]))).1
 ·have h2_:=h2;try simp at h2_
  rcases IFo hF with ⟨h3,hF⟩|⟨h3,hF⟩
  ·have h3_:=h3;try simp at h3_
   have F1:=A4 h2 h2_ h3 h3_;refine TL F1 g r [1,8] [(31,.bool true)] [] [] 1 ?_;refine CT (by simp [F1]) ?_;refine SW F1 [] N3 [0,7,31] [(4,.str (ByteArray.mk #[])),(5,.lst true true (List.map (AV.int .u8) ([] : List Int))),(6,.bool false)] [] [] 1 ?_;refine AW.own' 5 1 true (by simp [F1]) (by decide) ?_;refine RM h0 [(0,1)] [(4,.str (ByteArray.mk #[])),(5,.slc 0 0 1 (([] : List Int).length) false),(6,.bool false)] [(0,.grow (List.map (AV.int .u8) ([] : List Int)))] 1 (by simp [F1]) (by simp [F1]) ?_;simp only [Option.some.injEq,Prod.mk.injEq] at hF;obtain ⟨e0,e1,e2⟩:=hF;subst e0 e1 e2;exact AW.ret (hQ _ _ _ (by simp [Try.f120,F1]) (AaE (by simp [F1]))).1
  ·have h3_:=h3;try simp at h3_
   rcases IFo hF with ⟨h4,hF⟩|⟨h4,hF⟩
   ·have h4_:=h4;try simp at h4_
    have F2:=A6 h2 h2_ h3 h3_ h4 h4_;refine TL F2 g r [1,8] [(31,.bool true)] [] [] 1 ?_;refine CT (by simp [F2]) ?_;refine SW F2 [] N3 [0,7,31] [(4,.str (ByteArray.mk #[])),(5,.lst true true (List.map (AV.int .u8) ([] : List Int))),(6,.bool false)] [] [] 1 ?_;refine AW.own' 5 1 true (by simp [F2]) (by decide) ?_;refine RM h0 [(0,1)] [(4,.str (ByteArray.mk #[])),(5,.slc 0 0 1 (([] : List Int).length) false),(6,.bool false)] [(0,.grow (List.map (AV.int .u8) ([] : List Int)))] 1 (by simp [F2]) (by simp [F2]) ?_;simp only [Option.some.injEq,Prod.mk.injEq] at hF;obtain ⟨e0,e1,e2⟩:=hF;subst e0 e1 e2;exact AW.ret (hQ _ _ _ (by simp [Try.f120,F2]) (AaE (by simp [F2]))).1
   ·have h4_:=h4;try simp at h4_
    have F3:=A6 h2 h2_ h3 h3_ h4 h4_;refine TL F3 g r [1,8] [(31,.bool (decide ((v6.length : Int)<v5)))] [] [] 1 ?_;rcases IFo hF with ⟨h5,hF⟩|⟨h5,hF⟩
    ·have h5_:=h5;try simp at h5_
     have F4:=A3 F3 h5 h5_;refine CT (by simp [F4] <;> omega) ?_;refine SW F4 [] N3 [0,7,31] [(4,.str (ByteArray.mk #[])),(5,.lst true true (List.map (AV.int .u8) ([] : List Int))),(6,.bool false)] [] [] 1 ?_;refine AW.own' 5 1 true (by simp [F4]) (by decide) ?_;refine RM h0 [(0,1)] [(4,.str (ByteArray.mk #[])),(5,.slc 0 0 1 (([] : List Int).length) false),(6,.bool false)] [(0,.grow (List.map (AV.int .u8) ([] : List Int)))] 1 (by simp [F4]) (by simp [F4]) ?_;simp only [Option.some.injEq,Prod.mk.injEq] at hF;obtain ⟨e0,e1,e2⟩:=hF;subst e0 e1 e2;exact AW.ret (hQ _ _ _ (by simp [Try.f120,F4]) (AaE (by simp [F4]))).1
    ·have h5_:=h5;try simp at h5_
     have F5:=A3 F3 h5 h5_;refine CF (by simp [F5] <;> omega) ?_;refine AW.skip (hK0 _ _ _ ?_);refine SQ [] N11 fun _ _ g r=>?_;obtain ⟨⟨h6,h7⟩,hF⟩:=AaP hF;have h6_:=h6;try simp at h6_
     have h7_:=h7;try simp at h7_
     obtain ⟨⟨h8,h9⟩,hF⟩:=AaP hF;have h8_:=h8;try simp at h8_
     have h9_:=h9;try simp at h9_
     have F6:=A9 F5 h6 h7 h6_ h7_ h8 h9 h8_ h9_;try simp [F6]
     and_intros
     try any_goals first | omega | (simp [maxLen,F6] <;> omega)
     obtain ⟨v8,h10,hF⟩:=AaG hF;refine AC (Agq k _ _ h10) (.cons (.same (by simp [F6])) .nil) ?_;try simp [F6]
     and_intros <;> first | exact GK g | apply r | omega | (simp [maxLen,F6] <;> omega)
     refine RM h0 [(0,1)] [(4,.str (ofI (v6.take (v5).toNat))),(5,Sc 0 v8),(6,.bool true)] [(0,.grow (List.map (AV.int .u8) v8))] 1 (by simp [F6]) (by simp [F6]) ?_;simp only [Option.some.injEq,Prod.mk.injEq] at hF;obtain ⟨e0,e1,e2⟩:=hF;subst e0 e1 e2;exact AW.ret (hQ _ _ _ (by simp [Try.f120,F6]) (AaE (by simp [F6]))).1
end Go.TF
