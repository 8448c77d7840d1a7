import Derived.Test.YtomgdcnbceiggaaSrzWal30
set_option linter.unusedVariables false
set_option linter.unusedSimpArgs false
set_option maxRecDepth 100000
set_option maxHeartbeats 4000000
namespace Go.TF
open Go Go.Abs Go.Proofs Go.Proofs.YtomgdcnbceiggaaSrT
theorem Afm (k : Nat) (v0 : Int) (v1 : Int) (v2 : ByteArray) (v3 : Int) (v4 : Int) (v5 : Int) (v6 : Int) (v7 : Int) (v8 : (List Int)) (v9 : (List AaA)) (v10 : ByteArray) (v11 : Int) (v12 : ByteArray) (v13 : Bool) (hF : AdM k v0 v1 v2 v3 v4 v5 v6 v7 v8 v9 v10 v11 v12=some v13) :
 AbK Try.prog 18 [AV.agg [AV.int .i64 v0,AV.int .i64 v1,AV.str v2,AV.int .i64 v3,AV.int .i64 v4,AV.int .i64 v5,AV.int .i64 v6,AV.int .i64 v7,AV.lst false false (List.map (AV.int .i64) v8),Q0 v9,AV.str v10,AV.int .i64 v11,AV.str v12]] [] (AV.bool v13) []:=by
 unfold AdM at hF;refine EN Try.func18 ?_;intro c0 w0 Q h0 hQ
 refine WK [(0,AV.agg [Iz v0,Iz v1,AV.str v2,Iz v3,Iz v4,Iz v5,Iz v6,Iz v7,Lz v8,Q0 v9,AV.str v10,Iz v11,AV.str v12])] [] 0 (by simp) (by simp) ?_;refine SW trivial [] [none,none] [0] [(1,AV.ptr 0 0)] [] [(0,.cells [Iz v0,Iz v1,AV.str v2,Iz v3,Iz v4,Iz v5,Iz v6,Iz v7,Lz v8,Q0 v9,AV.str v10,Iz v11,AV.str v12])] 1 ?_;refine SR [] [none,none,none,none,none,some (7,true),some (7,true),some (7,true),some (7,true),none,none,some (13,true),some (13,true),some (13,true),some (13,true),none,none,some (19,true),some (19,true),some (19,true),some (19,true),none,none,some (25,true),some (25,true),some (25,true),some (25,true),some (25,true),none,none] fun _ _ g r=>?_;by_cases h1 : (v8.length : Int)≤100
 ·replace hF:=AaQ h1 hF;have h1_:=h1;try simp at h1_
  by_cases h2 : (v9.length : Int)≤100
  ·replace hF:=AaQ h2 hF;have h2_:=h2;try simp at h2_
   by_cases h3 : (v10.size : Int)≤5000
   ·replace hF:=AaQ h3 hF;have h3_:=h3;try simp at h3_
    by_cases h4 : (v2.size : Int)≤100
    ·replace hF:=AaQ h4 hF;have h4_:=h4;try simp at h4_
     have F1:=A8 h1 h1_ h2 h2_ h3 h3_ h4 h4_;refine TL F1 g r [1] [(2,AV.bool (decide ((v12.size : Int)≤100)))] [0] [] 1 ?_;simp only [Option.some.injEq] at hF;subst hF;refine AW.ret (hQ _ _ _ ?_ (AaC ?_)).1
     ·simp [Try.f18,F1]
     ·simp [F1]
    ·replace hF:=AaR h4 hF;have h4_:=h4;try simp at h4_
     have F2:=A8 h1 h1_ h2 h2_ h3 h3_ h4 h4_;refine TL F2 g r [1] [(2,AV.bool false)] [0] [] 1 ?_;simp only [Option.some.injEq] at hF;subst hF;refine AW.ret (hQ _ _ _ ?_ (AaC ?_)).1
     ·simp [Try.f18,F2]
     ·simp [F2]
   ·replace hF:=AaR h3 hF;have h3_:=h3;try simp at h3_
    have F3:=A6 h1 h1_ h2 h2_ h3 h3_;refine TL F3 g r [1] [(2,AV.bool false)] [0] [] 1 ?_;simp only [Option.some.injEq] at hF;subst hF;refine AW.ret (hQ _ _ _ ?_ (AaC ?_)).1
    ·simp [Try.f18,F3]
    ·simp [F3]
  ·replace hF:=AaR h2 hF;have h2_:=h2;try simp at h2_
   have F4:=A4 h1 h1_ h2 h2_;refine TL F4 g r [1] [(2,AV.bool false)] [0] [] 1 ?_;simp only [Option.some.injEq] at hF;subst hF;refine AW.ret (hQ _ _ _ ?_ (AaC ?_)).1
   ·simp [Try.f18,F4]
   ·simp [F4]
 ·replace hF:=AaR h1 hF;have h1_:=h1;try simp at h1_
  refine TL (A2 h1 h1_) g r [1] [(2,AV.bool false)] [0] [] 1 ?_;simp only [Option.some.injEq] at hF;subst hF;refine AW.ret (hQ _ _ _ ?_ (AaC ?_)).1
  ·simp [Try.f18,h1,h1_]
  ·simp [h1,h1_]
theorem Aet (k : Nat) (v0 : (List Int)) (v1 : (List Int)) (hF : AcJ k v0=some v1) :
 AbK Try.prog 81 [AV.lst false false (List.map (AV.int .i64) v0)] [] (AV.slc 0 0 1 v1.length false) [some (Gi v1)]:=by
 unfold AcJ at hF;obtain ⟨h1,hF⟩:=AaS hF;simp only [Option.some.injEq] at hF;subst hF;refine EN Try.func81 ?_;intro c0 w0 Q h0 hQ
 refine WK [(0,Lz v0)] [] 0 (by simp) (by simp) ?_;refine SQ [] [none] fun _ _ g r=>?_;simp
 refine ⟨g _ (by kernel_rfl),r _ _ _ ?_⟩;refine WK [(0,Lz v0)] [] 0 (by simp) (by simp) ?_;refine AW.nilSplit (fl:=false) (xs:=List.map (AV.int .i64) v0) 0 (by decide) (by simp) (fun hx=>?_) ?_
 ·simp at hx
  subst hx;refine WK [(0,AV.lst true false [])] [] 0 (by simp) (by simp) ?_;refine AW.seq fun K2 hK2=>?_;refine SQ [] [none,none] fun _ _ g r=>?_;simp
  refine ⟨g _ (by kernel_rfl),r _ _ _ ?_⟩;refine WK [(4,AV.bool true)] [] 0 (by simp) (by simp) ?_;refine CT (by simp) ?_;refine SQ [] [none] fun _ _ g r=>?_;simp
  refine ⟨g _ (by kernel_rfl),r _ _ _ ?_⟩;refine WK [(2,AV.lst true true [])] [] 0 (by simp) (by simp) ?_;refine AW.own' 2 1 true (by simp) (by decide) ?_;refine AW.ret (hQ _ _ _ ?_ (AaC ?_)).1
  ·simp [Try.f81]
  ·simp
 ·refine WK [(0,AV.nn (Lz v0))] [] 0 (by simp) (by simp) ?_;refine AW.seq fun K2 hK2=>?_;refine SQ [] [none,none] fun _ _ g r=>?_;simp
  refine ⟨g _ (by kernel_rfl),r _ _ _ ?_⟩;refine WK [(0,AV.nn (Lz v0)),(4,AV.bool false)] [] 0 (by simp) (by simp) ?_;refine AW.flg [(0,Lz v0)] [] ⟨.nn,trivial⟩ trivial (by decide) ?_;refine WK [(0,Lz v0),(4,AV.bool false)] [] 0 (by simp) (by simp) ?_;refine CF (by simp) ?_;refine AW.skip ?_;refine hK2 _ _ _ ?_;refine SQ [7] [none,none,none,none] fun _ _ g r=>?_;simp
  and_intros <;> first | exact GK g | apply r | omega | (unfold maxLen; omega)
  refine WK [(2,AV.slc 0 0 1 v0.length false)] [(0,Gi v0)] 1 (by simp) (by simp) ?_;refine AW.ret (hQ _ _ _ ?_ (AaC ?_)).1
  ·simp [Try.f81]
  ·simp
theorem AdW (k : Nat) (v0 : (List AaA)) (v1 : (List AaA)) (hF : Aba k v0=some v1) :
 AbK Try.prog 82 [Q0 v0] [] (AV.slc 0 0 3 v1.length false) [some (.grow (AaW (List.map AaA.av v1)))]:=by
 unfold Aba at hF;obtain ⟨h1,hF⟩:=AaS hF;simp only [Option.some.injEq] at hF;subst hF;refine EN Try.func82 ?_;intro c0 w0 Q h0 hQ
 refine WK [(0,Q0 v0)] [] 0 (by simp) (by simp) ?_;refine SQ [] [none] fun _ _ g r=>?_;simp
 refine ⟨g _ (by kernel_rfl),r _ _ _ ?_⟩;refine WK [(0,Q0 v0)] [] 0 (by simp) (by simp) ?_;refine AW.nilSplit (fl:=false) (xs:=List.map AaA.av v0) 0 (by decide) (by simp) (fun hx=>?_) ?_
 ·simp at hx
  subst hx;refine WK [(0,AV.lst true false [])] [] 0 (by simp) (by simp) ?_;refine AW.seq fun K2 hK2=>?_;refine SQ [] [none,none] fun _ _ g r=>?_;simp
  refine ⟨g _ (by kernel_rfl),r _ _ _ ?_⟩;refine WK [(4,AV.bool true)] [] 0 (by simp) (by simp) ?_;refine CT (by simp) ?_;refine SQ [] [none] fun _ _ g r=>?_;simp
  refine ⟨g _ (by kernel_rfl),r _ _ _ ?_⟩;refine WK [(2,AV.lst true true [])] [] 0 (by simp) (by simp) ?_;refine AW.own' 2 3 true (by simp) (by decide) ?_;refine AW.ret (hQ _ _ _ ?_ (AaC ?_)).1
  ·simp [Try.f82]
  ·simp
 ·refine WK [(0,AV.nn (Q0 v0))] [] 0 (by simp) (by simp) ?_;refine AW.seq fun K2 hK2=>?_;refine SQ [] [none,none] fun _ _ g r=>?_;simp
  refine ⟨g _ (by kernel_rfl),r _ _ _ ?_⟩;refine WK [(0,AV.nn (Q0 v0)),(4,AV.bool false)] [] 0 (by simp) (by simp) ?_;refine AW.flg [(0,Q0 v0)] [] ⟨.nn,trivial⟩ trivial (by decide) ?_;refine WK [(0,Q0 v0),(4,AV.bool false)] [] 0 (by simp) (by simp) ?_;refine CF (by simp) ?_;refine AW.skip ?_;refine hK2 _ _ _ ?_;refine SQ [7] [none,none,none,none] fun _ _ g r=>?_;simp
  and_intros <;> first | exact GK g | apply r | omega | (unfold maxLen; omega)
  refine WK [(2,AV.slc 0 0 3 v0.length false)] [(0,.grow (AaW (List.map AaA.av v0)))] 1 (by simp) (by simp) ?_;refine AW.ret (hQ _ _ _ ?_ (AaC ?_)).1
  ·simp [Try.f82]
  ·simp
theorem Ac5 (k : Nat) (v0 : (List Int)) (v1 : (List Int)) (hF : AbW k v0=some v1) :
 AbK Try.prog 115 [AV.lst false false (List.map (AV.int .u8) v0)] [] (AV.slc 0 0 1 v1.length false) [some (.grow (List.map (AV.int .u8) v1))]:=by
 unfold AbW at hF;obtain ⟨h1,hF⟩:=AaS hF;simp only [Option.some.injEq] at hF;subst hF;refine EN Try.func115 ?_;intro c0 w0 Q h0 hQ
 refine WK [(0,Lb v0)] [] 0 (by simp) (by simp) ?_;refine SQ [] [none] fun _ _ g r=>?_;simp
 refine ⟨g _ (by kernel_rfl),r _ _ _ ?_⟩;refine WK [(0,Lb v0)] [] 0 (by simp) (by simp) ?_;refine AW.nilSplit (fl:=false) (xs:=List.map (AV.int .u8) v0) 0 (by decide) (by simp) (fun hx=>?_) ?_
 ·simp at hx
  subst hx;refine WK [(0,AV.lst true false [])] [] 0 (by simp) (by simp) ?_;refine AW.seq fun K2 hK2=>?_;refine SQ [] [none,none] fun _ _ g r=>?_;simp
  refine ⟨g _ (by kernel_rfl),r _ _ _ ?_⟩;refine WK [(4,AV.bool true)] [] 0 (by simp) (by simp) ?_;refine CT (by simp) ?_;refine SQ [] [none] fun _ _ g r=>?_;simp
  refine ⟨g _ (by kernel_rfl),r _ _ _ ?_⟩;refine WK [(2,AV.lst true true [])] [] 0 (by simp) (by simp) ?_;refine AW.own' 2 1 true (by simp) (by decide) ?_;refine AW.ret (hQ _ _ _ ?_ (AaC ?_)).1
  ·simp [Try.f115]
  ·simp
 ·refine WK [(0,AV.nn (Lb v0))] [] 0 (by simp) (by simp) ?_;refine AW.seq fun K2 hK2=>?_;refine SQ [] [none,none] fun _ _ g r=>?_;simp
  refine ⟨g _ (by kernel_rfl),r _ _ _ ?_⟩;refine WK [(0,AV.nn (Lb v0)),(4,AV.bool false)] [] 0 (by simp) (by simp) ?_;refine AW.flg [(0,Lb v0)] [] ⟨.nn,trivial⟩ trivial (by decide) ?_;refine WK [(0,Lb v0),(4,AV.bool false)] [] 0 (by simp) (by simp) ?_;refine CF (by simp) ?_;refine AW.skip ?_;refine hK2 _ _ _ ?_;refine SQ [7] [none,none,none,none] fun _ _ g r=>?_;simp
  and_intros <;> first | exact GK g | apply r | omega | (unfold maxLen; omega)
  refine WK [(2,AV.slc 0 0 1 v0.length false)] [(0,.grow (List.map (AV.int .u8) v0))] 1 (by simp) (by simp) ?_;refine AW.ret (hQ _ _ _ ?_ (AaC ?_)).1
  ·simp [Try.f115]
  ·simp
theorem Ahi (k : Nat) (v0 : (List Int)) (v1 : Int) (v2 : (List Int)) (hF : AcS k v0 v1=some v2) :
 AbK Try.prog 114 [AV.slc 0 0 1 v0.length false,AV.int .i64 v1] [.grow (List.map (AV.int .u8) v0)] (AV.slc 1 0 1 v2.length false) [none,some (.grow (List.map (AV.int .u8) v2))]:=by
 unfold AcS at hF;refine EN Try.func114 ?_;intro c0 w0 Q h0 hQ
 refine WK [(0,AV.slc 0 0 1 v0.length false),(1,Iz v1)] [(0,.grow (List.map (AV.int .u8) v0))] 1 (by simp) (by simp) ?_;refine SW trivial [] [none] [] [] [] [] 1 ?_;refine AW.seq fun K95 hK95=>?_;refine SW trivial [] [none] [] [(5,Iz 56)] [] [] 1 ?_;refine AW.block ?_;refine AW.rnm (m:=1) h0 [(1,0)] [(0,AV.slc 1 0 1 v0.length false),(1,Iz v1),(5,Iz 56)] [(1,.grow (List.map (AV.int .u8) v0))] 2 (by decide) (by decide) (by decide) rfl (by simp) (by simp) ?_;refine AW.loopF (α:=(Int×(List Int))) (fun n (v3,v4)=>AcS.L1 k v1 n v3 v4=some v2) (fun (v3,v4)=>[(0,AV.slc 1 0 1 v4.length false),(1,Iz v1),(5,Iz v3)]) (fun (v3,v4)=>[(1,.grow (List.map (AV.int .u8) v4))]) 2 k ((56,v0)) hF (by simp) (by simp) (by simp) ?_;rintro (_|n1) ⟨v3,v4⟩ hF K118 hK118
 ·try dsimp only at hF
  rw [AcS.L1] at hF; cases hF
 try dsimp only at hF
 rw [AcS.L1] at hF;refine AW.seq fun K120 hK120=>?_;refine SW trivial [] [none,none] [] [(7,AV.bool (decide (0≤v3)))] [] [] 2 ?_;by_cases h1 : 0≤v3
 ·replace hF:=AaQ h1 hF;have h1_:=h1;try simp at h1_
  refine CT (by simp [h1,h1_] <;> omega) ?_;refine AW.skip ?_;refine hK120 _ _ _ ?_;refine AW.seq fun K123 hK123=>?_;refine AW.block ?_;refine RG [] [none,none,none,none,none,none,none,none,none,none] fun _ _ g r=>?_;obtain ⟨h2,hF⟩:=AaS hF;obtain ⟨h3,hF⟩:=AaS hF;have h3_:=h3;try simp at h3_
  have F1:=A4 h1 h1_ h2 h3;try simp [F1]
  and_intros <;> first | exact GK g | apply r | omega | (simp [maxLen,F1] <;> omega)
  refine hK123 _ _ _ ?_;refine WK [(0,AV.slc 2 0 1 ((v4++([IntKind.wrap .u8 (Int.fdiv (IntKind.wrap .u64 v1) (2 ^ (min ((IntKind.wrap .u64 v3).toNat) 64)))] : List Int)).length) false),(1,Iz v1),(5,Iz v3)] [(2,.grow (List.map (AV.int .u8) (v4++([IntKind.wrap .u8 (Int.fdiv (IntKind.wrap .u64 v1) (2 ^ (min ((IntKind.wrap .u64 v3).toNat) 64)))] : List Int))))] 3 (by simp [F1] <;> omega) (by simp [F1]) ?_;refine RG [] [none,none,none] fun _ _ g r=>?_;try simp [F1]
  and_intros <;> first | exact GK g | apply r | omega | (simp [maxLen,F1] <;> omega)
  refine hK118 _ _ _ ?_;refine Can.weak [(0,AV.slc 2 0 1 ((v4++([IntKind.wrap .u8 (Int.fdiv (IntKind.wrap .u64 v1) (2 ^ (min ((IntKind.wrap .u64 v3).toNat) 64)))] : List Int)).length) false),(1,Iz v1),(5,Iz (IntKind.wrap .i64 (v3-8)))] [(2,.grow (List.map (AV.int .u8) (v4++([IntKind.wrap .u8 (Int.fdiv (IntKind.wrap .u64 v1) (2 ^ (min ((IntKind.wrap .u64 v3).toNat) 64)))] : List Int))))] 3 (by simp [F1] <;> omega) (by simp [F1]) (by simp) ?_;refine Can.ren (m:=1) h0 [(1,2)] [(0,AV.slc 1 0 1 ((v4++([IntKind.wrap .u8 (Int.fdiv (IntKind.wrap .u64 v1) (2 ^ (min ((IntKind.wrap .u64 v3).toNat) 64)))] : List Int)).length) false),(1,Iz v1),(5,Iz (IntKind.wrap .i64 (v3-8)))] [(1,.grow (List.map (AV.int .u8) (v4++([IntKind.wrap .u8 (Int.fdiv (IntKind.wrap .u64 v1) (2 ^ (min ((IntKind.wrap .u64 v3).toNat) 64)))] : List Int))))] 2 (by decide) (by decide) (by decide) rfl (by simp [F1]) (by simp [F1]) ?_;exact NX (k':=n1) ((IntKind.wrap .i64 (v3-8),v4++([IntKind.wrap .u8 (Int.fdiv (IntKind.wrap .u64 v1) (2 ^ (min ((IntKind.wrap .u64 v3).toNat) 64)))] : List Int))) hF (by simp [F1]) (by simp [F1])
 ·replace hF:=AaR h1 hF;have h1_:=h1;try simp at h1_
  refine CF (by simp [h1,h1_] <;> omega) ?_;refine AW.exit ?_;try simp
  refine hK95 _ _ _ ?_;refine SW (A2 h1 h1_) [] [none,none] [0,1,5] [(4,AV.slc 1 0 1 v4.length false)] [] [] 2 ?_;simp only [Option.some.injEq] at hF;subst hF;refine AW.ret (hQ _ _ _ ?_ (AaC ?_)).1
  ·simp [Try.f114,h1,h1_]
  ·simp [h1,h1_]
theorem Acr (k : Nat) (v0 : (List Int)) (v1 : Int) (v2 : (List Int)) (hF : Acq k v0 v1=some v2) :
 AbK Try.prog 84 [AV.lst false false (List.map (AV.int .u8) v0),AV.int .i64 v1] [] (AV.slc 0 0 1 v2.length false) [some (.grow (List.map (AV.int .u8) v2))]:=by
 unfold Acq at hF;refine EN Try.func84 ?_;intro c0 w0 Q h0 hQ
 refine WK [(0,Lb v0),(1,Iz v1)] [] 0 (by simp) (by simp) ?_;refine SW trivial [] [none] [] [] [] [] 0 ?_;refine SQ [] [none,none,none,none,none] fun _ _ g r=>?_;try simp
 and_intros
 try any_goals first | omega | (simp [maxLen] <;> omega)
 obtain ⟨v3,h1,hF⟩:=AaF hF;refine AC (Ac5 k _ _ h1) (.cons (.same (by simp)) .nil) ?_;try simp
 and_intros
 try any_goals first | omega | (simp [maxLen] <;> omega)
 obtain ⟨v4,h2,hF⟩:=AaF hF;refine AaT (Ahi k _ _ _ h2) (by simp) [0] [] [0] rfl (.cons (.same (by simp)) (.cons (.same (by simp)) .nil)) (by simp) (by decide) (by simp) (by simp) (.inl rfl) (by simp) (by simp) ?_;try simp
 and_intros <;> first | exact GK g | apply r | omega | (simp [maxLen] <;> omega)
 refine RM h0 [(0,1)] [(4,AV.slc 0 0 1 v4.length false)] [(0,.grow (List.map (AV.int .u8) v4))] 1 (by simp) (by simp) ?_;simp only [Option.some.injEq] at hF;subst hF;refine AW.ret (hQ _ _ _ ?_ (AaC ?_)).1
 ·simp [Try.f84]
 ·simp
theorem Aeb (k : Nat) (v0 : (List Int)) (v1 : ByteArray) (v2 : (List Int)) (hF : AdU k v0 v1=some v2) :
 AbK Try.prog 83 [AV.lst false false (List.map (AV.int .u8) v0),AV.str v1] [] (AV.slc 0 0 1 v2.length false) [some (.grow (List.map (AV.int .u8) v2))]:=by
 unfold AdU at hF;refine EN Try.func83 ?_;intro c0 w0 Q h0 hQ
 refine WK [(0,Lb v0),(1,AV.str v1)] [] 0 (by simp) (by simp) ?_;refine SW trivial [] [none] [] [] [] [] 0 ?_;refine SQ [] [none,none,none,none,none,none,none] fun _ _ g r=>?_;try simp
 and_intros
 try any_goals first | omega | (simp [maxLen] <;> omega)
 obtain ⟨v3,h1,hF⟩:=AaF hF;refine AC (Acr k _ _ _ h1) (.cons (.same (by simp)) (.cons (.same (by simp)) .nil)) ?_;obtain ⟨h2,hF⟩:=AaS hF;have h2_:=h2;try simp at h2_
 try simp [h2]
 and_intros <;> first | exact GK g | apply r | omega | (simp [h2,maxLen] <;> omega)
 refine RM h0 [(0,1)] [(4,AV.slc 0 0 1 ((v3++(bI v1)).length) false)] [(0,.grow (List.map (AV.int .u8) (v3++(bI v1))))] 1 (by simp [h2] <;> omega) (by simp [h2]) ?_;simp only [Option.some.injEq] at hF;subst hF;refine AW.ret (hQ _ _ _ ?_ (AaC ?_)).1
 ·simp [Try.f83,h2]
 ·simp [h2]
theorem Ajb (k : Nat) (v0 : (List Int)) (v1 : (List Int)) (v2 : (List Int)) (hF : AcC k v0 v1=some v2) :
 AbK Try.prog 98 [AV.lst false false (List.map (AV.int .u8) v0),AV.lst false false (List.map (AV.int .i64) v1)] [] (AV.slc 0 0 1 v2.length false) [some (.grow (List.map (AV.int .u8) v2))]:=by
 unfold AcC at hF;refine EN Try.func98 ?_;intro c0 w0 Q h0 hQ
 refine WK [(0,Lb v0),(1,Lz v1)] [] 0 (by simp) (by simp) ?_;refine SW trivial [] [none] [] [] [] [] 0 ?_;obtain ⟨v3,h1,hF⟩:=AaF hF;refine CL trivial [] [none,none,none,none,none] (Acr k _ _ _ h1) [0] [(5,AV.slc 0 0 1 v3.length false)] [] [(0,.grow (List.map (AV.int .u8) v3))] 1 ?_;refine AW.seq fun K109 hK109=>?_;refine SW trivial [] [none,none,none] [1] [(12,Lz v1),(13,Iz (v1.length : Int)),(14,Iz 0)] [] [] 1 ?_;refine AW.block ?_;refine AW.loopF (α:=(Int×(List Int))) (fun n (v4,v5)=>AcC.L1 k v1 n v4 v5=some v2) (fun (v4,v5)=>[(5,AV.slc 0 0 1 v5.length false),(12,Lz v1),(13,Iz (v1.length : Int)),(14,Iz v4)]) (fun (v4,v5)=>[(0,.grow (List.map (AV.int .u8) v5))]) 1 k ((0,v3)) hF (by simp) (by simp) (by simp) ?_;rintro (_|n1) ⟨v4,v5⟩ hF K135 hK135
 ·try dsimp only at hF
  rw [AcC.L1] at hF; cases hF
 try dsimp only at hF
 rw [AcC.L1] at hF;refine SW trivial [] [none] [] [(15,AV.bool (decide (v4<(v1.length : Int))))] [] [] 1 ?_;refine AW.seq fun K137 hK137=>?_;by_cases h2 : v4<(v1.length : Int)
 ·replace hF:=AaQ h2 hF;have h2_:=h2;try simp at h2_
  refine CT (by simp [h2,h2_] <;> omega) ?_;refine AW.skip ?_;refine hK137 _ _ _ ?_;refine AW.seq fun K140 hK140=>?_;refine AW.block ?_;refine SR [] [none,none,none] fun _ _ g r=>?_;obtain ⟨v6,h3,h4,h5,hF⟩:=Aah hF;have h5_:=Aa7 h5;try simp at h5_
  have h4_:=h4;try simp at h4_
  have F1:=A7 h2 h2_ h3 h4 h5 h5_ h4_;refine TL F1 g r [] [(7,Iz v6)] [] [] 1 ?_;refine RG [] [none,none,none,none] fun _ _ g r=>?_;try simp [F1]
  and_intros
  try any_goals first | omega | (simp [maxLen,F1] <;> omega)
  obtain ⟨v7,h6,hF⟩:=AaF hF;refine AaT (Ahi k _ _ _ h6) (by simp) [0] [] [0] rfl (.cons (.same (by simp [F1])) (.cons (.same (by simp [F1])) .nil)) (by simp [F1]) (by decide) (by simp) (by simp) (.inl rfl) (by simp) (by simp) ?_;try simp [F1]
  and_intros <;> first | exact GK g | apply r | omega | (simp [maxLen,F1] <;> omega)
  refine hK140 _ _ _ ?_;refine WK [(5,AV.slc 1 0 1 v7.length false),(12,Lz v1),(13,Iz (v1.length : Int)),(14,Iz v4)] [(1,.grow (List.map (AV.int .u8) v7))] 2 (by simp [F1]) (by simp [F1]) ?_;refine RG [] [none,none] fun _ _ g r=>?_;try simp [F1]
  and_intros <;> first | exact GK g | apply r | omega | (simp [maxLen,F1] <;> omega)
  refine hK135 _ _ _ ?_;refine RN h0 [(0,1)] [(5,AV.slc 0 0 1 v7.length false),(12,Lz v1),(13,Iz (v1.length : Int)),(14,Iz (IntKind.wrap .i64 (v4+1)))] [(0,.grow (List.map (AV.int .u8) v7))] 1 (by simp [F1]) (by simp [F1]) ?_;exact NX (k':=n1) ((IntKind.wrap .i64 (v4+1),v7)) hF (by simp [F1]) (by simp [F1])
 ·replace hF:=AaR h2 hF;have h2_:=h2;try simp at h2_
  refine CF (by simp [h2,h2_] <;> omega) ?_;refine AW.exit ?_;try simp
  refine hK109 _ _ _ ?_;refine SW (A2 h2 h2_) [] [none,none] [5,12,13,14] [(4,AV.slc 0 0 1 v5.length false)] [] [] 1 ?_;simp only [Option.some.injEq] at hF;subst hF;refine AW.ret (hQ _ _ _ ?_ (AaC ?_)).1
  ·simp [Try.f98,h2,h2_]
  ·simp [h2,h2_]
abbrev Aaw (v0 : Int) (v1 : Int) (v2 : ByteArray) (v3 : Int) (v4 : Int) (v5 : Int) (v6 : Int) (v7 : Int) (v8 : (List Int)) (v9 : (List AaA)) (v10 : ByteArray) (v11 : Int) (v12 : ByteArray) : Aaq := .cells [Iz v0,Iz v1,AV.str v2,Iz v3,Iz v4,Iz v5,Iz v6,Iz v7,Lz v8,Q0 v9,AV.str v10,Iz v11,AV.str v12]
theorem AdJ (k : Nat) (v0 : Int) (v1 : Int) (v2 : ByteArray) (v3 : Int) (v4 : Int) (v5 : Int) (v6 : Int) (v7 : Int) (v8 : (List Int)) (v9 : (List AaA)) (v10 : ByteArray) (v11 : Int) (v12 : ByteArray) (v13 : (List Int)) (hF : Aak k v0 v1 v2 v3 v4 v5 v6 v7 v8 v9 v10 v11 v12=some v13) :
 AbK Try.prog 55 [AV.agg [AV.int .i64 v0,AV.int .i64 v1,AV.str v2,AV.int .i64 v3,AV.int .i64 v4,AV.int .i64 v5,AV.int .i64 v6,AV.int .i64 v7,AV.lst false false (List.map (AV.int .i64) v8),Q0 v9,AV.str v10,AV.int .i64 v11,AV.str v12]] [] (AV.slc 0 0 1 v13.length false) [some (.grow (List.map (AV.int .u8) v13))]:=by
 unfold Aak at hF;refine EN Try.func55 ?_;intro c0 w0 Q h0 hQ
 refine WK [(0,AV.agg [Iz v0,Iz v1,AV.str v2,Iz v3,Iz v4,Iz v5,Iz v6,Iz v7,Lz v8,Q0 v9,AV.str v10,Iz v11,AV.str v12])] [] 0 (by simp) (by simp) ?_;refine SW trivial [] [none,none] [0] [(1,AV.ptr 0 0)] [] [(0,Aaw v0 v1 v2 v3 v4 v5 v6 v7 v8 v9 v10 v11 v12)] 1 ?_;refine SR [] [none,none,none,none] fun _ _ g r=>?_;try simp
 and_intros
 try any_goals first | omega | (simp [maxLen] <;> omega)
 obtain ⟨v14,h1,hF⟩:=AaF hF;refine AC (Acr k _ _ _ h1) (.cons (Coe.fl (by simp)) (.cons (.same (by simp)) .nil)) ?_;refine TL trivial g r [] [(3,AV.slc 1 0 1 v14.length false)] [] [(1,.grow (List.map (AV.int .u8) v14))] 2 ?_;refine AW.frz 1 (o := .grow (List.map (AV.int .u8) v14)) (by simp) rfl [(3,Lb v14)] [] ⟨(.l (by simp) (by simp) (by simp) (by simp)),trivial⟩ trivial ?_;refine WK [(1,AV.ptr 0 0),(3,Lb v14)] [(0,Aaw v0 v1 v2 v3 v4 v5 v6 v7 v8 v9 v10 v11 v12)] 2 (by simp) (by simp) ?_;obtain ⟨v15,h2,hF⟩:=AaF hF;refine CL trivial [] [none,none,none,none,none] (Acr k _ _ _ h2) [3] [(3,AV.slc 2 0 1 v15.length false)] [] [(2,.grow (List.map (AV.int .u8) v15))] 3 ?_;refine AW.frz 2 (o := .grow (List.map (AV.int .u8) v15)) (by simp) rfl [(3,Lb v15)] [] ⟨(.l (by simp) (by simp) (by simp) (by simp)),trivial⟩ trivial ?_;refine WK [(1,AV.ptr 0 0),(3,Lb v15)] [(0,Aaw v0 v1 v2 v3 v4 v5 v6 v7 v8 v9 v10 v11 v12)] 3 (by simp) (by simp) ?_;obtain ⟨v16,h3,hF⟩:=AaF hF;refine CL trivial [] [none,none,none,none,none] (Aeb k _ _ _ h3) [3] [(3,AV.slc 3 0 1 v16.length false)] [] [(3,.grow (List.map (AV.int .u8) v16))] 4 ?_;refine AW.frz 3 (o := .grow (List.map (AV.int .u8) v16)) (by simp) rfl [(3,Lb v16)] [] ⟨(.l (by simp) (by simp) (by simp) (by simp)),trivial⟩ trivial ?_;refine WK [(1,AV.ptr 0 0),(3,Lb v16)] [(0,Aaw v0 v1 v2 v3 v4 v5 v6 v7 v8 v9 v10 v11 v12)] 4 (by simp) (by simp) ?_;refine AW.seq fun K184 hK184=>?_;refine SW trivial [] [none,none,none,none,none,none,none,none,none,none,none,none] [] [(29,AV.agg (List.map (AV.int .i64) ([v3,v4,v5,v6,v7] : List Int))),(30,Iz 0)] [] [] 4 ?_;refine AW.block ?_;refine RM h0 [(0,0)] [(1,AV.ptr 0 0),(3,Lb v16),(29,AV.agg (List.map (AV.int .i64) ([v3,v4,v5,v6,v7] : List Int))),(30,Iz 0)] [(0,Aaw v0 v1 v2 v3 v4 v5 v6 v7 v8 v9 v10 v11 v12)] 1 (by simp) (by simp) ?_;refine AW.loopF (α:=((List Int)×Int)) (fun n (v17,v18)=>Aak.L1 k v3 v4 v5 v6 v7 v8 v9 v10 n v17 v18=some v13) (fun (v17,v18)=>[(1,AV.ptr 0 0),(3,Lb v17),(29,AV.agg (List.map (AV.int .i64) ([v3,v4,v5,v6,v7] : List Int))),(30,Iz v18)]) (fun (v17,v18)=>[(0,Aaw v0 v1 v2 v3 v4 v5 v6 v7 v8 v9 v10 v11 v12)]) 1 k ((v16,0)) hF (by simp) (by simp) (by simp) ?_;rintro (_|n1) ⟨v17,v18⟩ hF K210 hK210
 ·try dsimp only at hF
  rw [Aak.L1] at hF; cases hF
 try dsimp only at hF
 rw [Aak.L1] at hF;refine SW trivial [] [none] [] [(31,AV.bool (decide (v18<5)))] [] [] 1 ?_;refine AW.seq fun K212 hK212=>?_;by_cases h4 : v18<5
 ·replace hF:=AaQ h4 hF;have h4_:=h4;try simp at h4_
  refine CT (by simp [h4,h4_] <;> omega) ?_;refine AW.skip ?_;refine hK212 _ _ _ ?_;refine AW.seq fun K215 hK215=>?_;refine AW.block ?_;refine SR [] [none,none] fun _ _ g r=>?_;obtain ⟨h5,hF⟩:=AaS hF;obtain ⟨v19,h6,h7,h8,hF⟩:=Aah hF;have h8_:=Aa7 h8;try simp at h8_
  have h7_:=h7;try simp at h7_
  have h8__:=Aa7 (Alu ((AV.int .i64)) h8);try simp at h8__
  have F1:=A9 h4 h4_ h5 h6 h7 h8 h8_ h7_ h8__;refine TL F1 g r [] [(5,Iz v19)] [] [] 1 ?_;refine RG [] [none,none,none,none] fun _ _ g r=>?_;try simp [F1]
  and_intros
  try any_goals first | omega | (simp [maxLen,F1] <;> omega)
  obtain ⟨v20,h9,hF⟩:=AaF hF;refine AC (Acr k _ _ _ h9) (.cons (.same (by simp [F1])) (.cons (.same (by simp [F1])) .nil)) ?_;try simp [F1]
  and_intros <;> first | exact GK g | apply r | omega | (simp [maxLen,F1] <;> omega)
  refine hK215 _ _ _ ?_;refine WK [(1,AV.ptr 0 0),(3,AV.slc 1 0 1 v20.length false),(29,AV.agg (List.map (AV.int .i64) ([v3,v4,v5,v6,v7] : List Int))),(30,Iz v18)] [(0,Aaw v0 v1 v2 v3 v4 v5 v6 v7 v8 v9 v10 v11 v12),(1,.grow (List.map (AV.int .u8) v20))] 2 (by simp [F1]) (by simp [F1]) ?_;refine AW.frz 1 (o := .grow (List.map (AV.int .u8) v20)) (by simp [F1]) rfl [(3,Lb v20)] [] ⟨(.l (by simp) (by simp) (by simp) (by simp)),trivial⟩ trivial ?_;refine WK [(1,AV.ptr 0 0),(3,Lb v20),(29,AV.agg (List.map (AV.int .i64) ([v3,v4,v5,v6,v7] : List Int))),(30,Iz v18)] [(0,Aaw v0 v1 v2 v3 v4 v5 v6 v7 v8 v9 v10 v11 v12)] 2 (by simp [F1]) (by simp [F1]) ?_;refine RG [] [none,none] fun _ _ g r=>?_;try simp [F1]
  and_intros <;> first | exact GK g | apply r | omega | (simp [maxLen,F1] <;> omega)
  refine hK210 _ _ _ ?_;refine RN h0 [(0,0)] [(1,AV.ptr 0 0),(3,Lb v20),(29,AV.agg (List.map (AV.int .i64) ([v3,v4,v5,v6,v7] : List Int))),(30,Iz (IntKind.wrap .i64 (v18+1)))] [(0,Aaw v0 v1 v2 v3 v4 v5 v6 v7 v8 v9 v10 v11 v12)] 1 (by simp [F1]) (by simp [F1]) ?_;exact NX (k':=n1) ((v20,IntKind.wrap .i64 (v18+1))) hF (by simp [F1]) (by simp [F1])
 ·replace hF:=AaR h4 hF;have h4_:=h4;try simp at h4_
  refine CF (by simp [h4,h4_] <;> omega) ?_;refine AW.exit ?_;try simp
  refine hK184 _ _ _ ?_;obtain ⟨v21,h10,hF⟩:=AaF hF;refine CL (A2 h4 h4_) [] [none,none,none,none,none] (Ajb k _ _ _ h10) [3,29,30] [(3,AV.slc 1 0 1 v21.length false)] [] [(1,.grow (List.map (AV.int .u8) v21))] 2 ?_;refine AW.frz 1 (o := .grow (List.map (AV.int .u8) v21)) (by simp [h4,h4_]) rfl [(3,Lb v21)] [] ⟨(.l (by simp) (by simp) (by simp) (by simp)),trivial⟩ trivial ?_;refine WK [(1,AV.ptr 0 0),(3,Lb v21)] [(0,Aaw v0 v1 v2 v3 v4 v5 v6 v7 v8 v9 v10 v11 v12)] 2 (by simp [h4,h4_]) (by simp [h4,h4_]) ?_;obtain ⟨v22,h11,hF⟩:=AaF hF;refine CL (A2 h4 h4_) [] [none,none,none,none,none,none] (Acr k _ _ _ h11) [3] [(3,AV.slc 2 0 1 v22.length false)] [] [(2,.grow (List.map (AV.int .u8) v22))] 3 ?_;refine AW.frz 2 (o := .grow (List.map (AV.int .u8) v22)) (by simp [h4,h4_]) rfl [(3,Lb v22)] [] ⟨(.l (by simp) (by simp) (by simp) (by simp)),trivial⟩ trivial ?_;refine WK [(1,AV.ptr 0 0),(3,Lb v22)] [(0,Aaw v0 v1 v2 v3 v4 v5 v6 v7 v8 v9 v10 v11 v12)] 3 (by simp [h4,h4_]) (by simp [h4,h4_]) ?_;refine AW.seq fun K255 hK255=>?_;refine SW (A2 h4 h4_) [] [none,none,none,none] [] [(47,Q0 v9),(48,Iz (v9.length : Int)),(49,Iz 0)] [] [] 3 ?_;refine AW.block ?_;refine RM h0 [(0,0)] [(1,AV.ptr 0 0),(3,Lb v22),(47,Q0 v9),(48,Iz (v9.length : Int)),(49,Iz 0)] [(0,Aaw v0 v1 v2 v3 v4 v5 v6 v7 v8 v9 v10 v11 v12)] 1 (by simp [h4,h4_]) (by simp [h4,h4_]) ?_;refine AW.loopF (α:=((List Int)×Int)) (fun n (v23,v24)=>Aak.L2 k v9 v10 n v23 v24=some v13) (fun (v23,v24)=>[(1,AV.ptr 0 0),(3,Lb v23),(47,Q0 v9),(48,Iz (v9.length : Int)),(49,Iz v24)]) (fun (v23,v24)=>[(0,Aaw v0 v1 v2 v3 v4 v5 v6 v7 v8 v9 v10 v11 v12)]) 1 k ((v22,0)) hF (by simp [h4,h4_]) (by simp [h4,h4_]) (by simp) ?_;rintro (_|n2) ⟨v23,v24⟩ hF K281 hK281
  ·try dsimp only at hF
   rw [Aak.L2] at hF; cases hF
  try dsimp only at hF
  rw [Aak.L2] at hF;refine SW (A2 h4 h4_) [] [none] [] [(50,AV.bool (decide (v24<(v9.length : Int))))] [] [] 1 ?_;refine AW.seq fun K283 hK283=>?_;by_cases h12 : v24<(v9.length : Int)
  ·replace hF:=AaQ h12 hF;have h12_:=h12;try simp at h12_
   have F2:=A4 h4 h4_ h12 h12_;refine CT (by simp [F2] <;> omega) ?_;refine AW.skip ?_;refine hK283 _ _ _ ?_;refine AW.seq fun K286 hK286=>?_;refine AW.block ?_;refine SR [] [none,none,none,none] fun _ _ g r=>?_;obtain ⟨v25,h13,h14,h15,hF⟩:=Aah hF;have h15_:=Aa7 h15;try simp at h15_
   have h14_:=h14;try simp at h14_
   have F3:=A6 F2 h13 h14 h15 h15_ h14_;refine TL F3 g r [] [(7,AV.ptr 1 0)] [] [(1,.cells [Iz v25.Author,Iz v25.Height,AV.str v25.Digest])] 2 ?_;refine RG [] [none,none,none,none,none,none,none,none,none,none,none] fun _ _ g r=>?_;try simp [F3]
   and_intros
   try any_goals first | omega | (simp [maxLen,F3] <;> omega)
   obtain ⟨v26,h16,hF⟩:=AaF hF;refine AC (Acr k _ _ _ h16) (.cons (.same (by simp [F3])) (.cons (.same (by simp [F3])) .nil)) ?_;try simp [F3]
   and_intros
   try any_goals first | omega | (simp [maxLen,F3] <;> omega)
   obtain ⟨v27,h17,hF⟩:=AaF hF;refine AaT (Acr k _ _ _ h17) (by simp) [] [2] [] rfl (.cons (Coe.l (o := .grow (List.map (AV.int .u8) v26)) (by simp [F3]) rfl (by simp [F3]) (by simp [Acd]) (by simp [F3]) (by simp [F3])) (.cons (.same (by simp [F3])) .nil)) (by simp [F3]) (by decide) (by simp) (by simp) (.inr ⟨by simp,by simp⟩) (by simp) (by simp) ?_;try simp [F3]
   and_intros
   try any_goals first | omega | (simp [maxLen,F3] <;> omega)
   obtain ⟨v28,h18,hF⟩:=AaF hF;refine AaT (Aeb k _ _ _ h18) (by simp) [] [3] [] rfl (.cons (Coe.l (o := .grow (List.map (AV.int .u8) v27)) (by simp [F3]) rfl (by simp [F3]) (by simp [Acd]) (by simp [F3]) (by simp [F3])) (.cons (.same (by simp [F3])) .nil)) (by simp [F3]) (by decide) (by simp) (by simp) (.inr ⟨by simp,by simp⟩) (by simp) (by simp) ?_;try simp [F3]
   and_intros <;> first | exact GK g | apply r | omega | (simp [maxLen,F3] <;> omega)
   refine hK286 _ _ _ ?_;refine WK [(1,AV.ptr 0 0),(3,AV.slc 4 0 1 v28.length false),(47,Q0 v9),(48,Iz (v9.length : Int)),(49,Iz v24)] [(0,Aaw v0 v1 v2 v3 v4 v5 v6 v7 v8 v9 v10 v11 v12),(4,.grow (List.map (AV.int .u8) v28))] 5 (by simp [F3]) (by simp [F3]) ?_;refine AW.frz 4 (o := .grow (List.map (AV.int .u8) v28)) (by simp [F3]) rfl [(3,Lb v28)] [] ⟨(.l (by simp) (by simp) (by simp) (by simp)),trivial⟩ trivial ?_;refine WK [(1,AV.ptr 0 0),(3,Lb v28),(47,Q0 v9),(48,Iz (v9.length : Int)),(49,Iz v24)] [(0,Aaw v0 v1 v2 v3 v4 v5 v6 v7 v8 v9 v10 v11 v12)] 5 (by simp [F3]) (by simp [F3]) ?_;refine RG [] [none,none] fun _ _ g r=>?_;try simp [F3]
   and_intros <;> first | exact GK g | apply r | omega | (simp [maxLen,F3] <;> omega)
   refine hK281 _ _ _ ?_;refine RN h0 [(0,0)] [(1,AV.ptr 0 0),(3,Lb v28),(47,Q0 v9),(48,Iz (v9.length : Int)),(49,Iz (IntKind.wrap .i64 (v24+1)))] [(0,Aaw v0 v1 v2 v3 v4 v5 v6 v7 v8 v9 v10 v11 v12)] 1 (by simp [F3]) (by simp [F3]) ?_;exact NX (k':=n2) ((v28,IntKind.wrap .i64 (v24+1))) hF (by simp [F3]) (by simp [F3])
  ·replace hF:=AaR h12 hF;have h12_:=h12;try simp at h12_
   have F4:=A4 h4 h4_ h12 h12_;refine CF (by simp [F4] <;> omega) ?_;refine AW.exit ?_;try simp
   refine hK255 _ _ _ ?_;refine SQ [] [none,none,none,none,none] fun _ _ g r=>?_;try simp [F4]
   and_intros
   try any_goals first | omega | (simp [maxLen,F4] <;> omega)
   obtain ⟨v29,h19,hF⟩:=AaF hF;refine AC (Aeb k _ _ _ h19) (.cons (.same (by simp [F4])) (.cons (.same (by simp [F4])) .nil)) ?_;try simp [F4]
   and_intros <;> first | exact GK g | apply r | omega | (simp [maxLen,F4] <;> omega)
   refine RM h0 [(0,1)] [(2,AV.slc 0 0 1 v29.length false)] [(0,.grow (List.map (AV.int .u8) v29))] 1 (by simp [F4]) (by simp [F4]) ?_;simp only [Option.some.injEq] at hF;subst hF;refine AW.ret (hQ _ _ _ ?_ (AaC ?_)).1
   ·simp [Try.f55,F4]
   ·simp [F4]
theorem Agv (k : Nat) (v0 : (List Int)) (hF : Ado k=some v0) :
 AbK Try.prog 76 [] [] (AV.agg (List.map (AV.int .u32) v0)) []:=by
 unfold Ado at hF;refine EN Try.func76 ?_;intro c0 w0 Q h0 hQ
 refine WK [] [] 0 (by simp) (by simp) ?_;refine SW trivial [] [none] [] [(0,AV.ptr 0 0)] [] [(0,.cells (List.map (AV.int .u32) (List.replicate 64 0)))] 1 ?_;refine SR [] [none,none] fun _ _ g r=>?_;obtain ⟨h1,hF⟩:=AaS hF;refine TL h1 g r [] [] [0] [(0,.cells (List.map (AV.int .u32) ([1116352408,1899447441,3049323471,3921009573,961987163,1508970993,2453635748,2870763221,3624381080,310598401,607225278,1426881987,1925078388,2162078206,2614888103,3248222580,3835390401,4022224774,264347078,604807628,770255983,1249150122,1555081692,1996064986,2554220882,2821834349,2952996808,3210313671,3336571891,3584528711,113926993,338241895,666307205,773529912,1294757372,1396182291,1695183700,1986661051,2177026350,2456956037,2730485921,2820302411,3259730800,3345764771,3516065817,3600352804,4094571909,275423344,430227734,506948616,659060556,883997877,958139571,1322822218,1537002063,1747873779,1955562222,2024104815,2227730452,2361852424,2428436474,2756734187,3204031479,3329325298] : List Int)))] 1 ?_;obtain ⟨h2,hF⟩:=AaS hF;have h2_:=Afw h2 (by decide);simp only [Option.some.injEq] at hF;subst hF;refine AW.ret (hQ _ _ _ ?_ (AaC ?_)).1
 ·have F1:=A3 h1 h2 h2_;simp [Try.f76,F1]
 ·have F2:=A3 h1 h2 h2_;simp [F2]
theorem AeQ (k : Nat) (v0 : Int) (v1 : Int) (v2 : Int) (hF : Aao k v0 v1=some v2) :
 AbK Try.prog 112 [AV.int .u32 v0,AV.int .i64 v1] [] (AV.int .u32 v2) []:=by
 unfold Aao at hF;refine EN Try.func112 ?_;intro c0 w0 Q h0 hQ
 refine WK [(0,AV.int .u32 v0),(1,Iz v1)] [] 0 (by simp) (by simp) ?_;refine SW trivial [] [none] [] [] [] [] 0 ?_;refine SW trivial [] [none,none,none,none] [1] [(5,AV.int .u64 (AaG .and .u64 (IntKind.wrap .u64 v1) 31))] [] [] 0 ?_;refine SR [] [none,none,none,none,none,none,none,none,none] fun _ _ g r=>?_;obtain ⟨h1,hF⟩:=AaS hF;obtain ⟨h2,hF⟩:=AaS hF;refine TL (A2 h1 h2) g r [0,5] [(4,AV.int .u32 (AaG .or .u32 (IntKind.wrap .u32 (v0*2 ^ (min ((AaG .and .u64 (IntKind.wrap .u64 v1) 31).toNat) 32))) (Int.fdiv v0 (2 ^ (min ((IntKind.wrap .u64 (32-AaG .and .u64 (IntKind.wrap .u64 v1) 31)).toNat) 32)))))] [] [] 0 ?_;simp only [Option.some.injEq] at hF;subst hF;refine AW.ret (hQ _ _ _ ?_ (AaC ?_)).1
 ·simp [Try.f112,h1,h2]
 ·simp [h1,h2]
theorem Aa1 (k : Nat) (v0 : Int) (v1 : Int) (v2 : Int) (hF : AaN k v0 v1=some v2) :
 AbK Try.prog 111 [AV.int .u32 v0,AV.int .i64 v1] [] (AV.int .u32 v2) []:=by
 unfold AaN at hF;refine EN Try.func111 ?_;intro c0 w0 Q h0 hQ
 refine WK [(0,AV.int .u32 v0),(1,Iz v1)] [] 0 (by simp) (by simp) ?_;refine SW trivial [] [none] [] [] [] [] 0 ?_;obtain ⟨v3,h1,hF⟩:=AaF hF;refine CL trivial [] [none,none,none,none,none] (AeQ k _ _ _ h1) [0,1] [(4,AV.int .u32 v3)] [] [] 0 ?_;simp only [Option.some.injEq] at hF;subst hF;refine AW.ret (hQ _ _ _ ?_ (AaC ?_)).1
 ·simp [Try.f111]
 ·simp
theorem AfR (k : Nat) (v0 : (List Int)) (v1 : (List Int)) (v2 : (List Int)) (v3 : (List Int)) (hF : AaL k v0 v1 v2=some v3) :
 AbK Try.prog 77 [AV.ptr 0 0,AV.lst false false (List.map (AV.int .u8) v1),AV.ptr 1 0] [.cells (List.map (AV.int .u32) v0),.cells (List.map (AV.int .u32) v2)] (AV.tup []) [some (.cells (List.map (AV.int .u32) v3)),some (.cells (List.map (AV.int .u32) v2))]:=by
 unfold AaL at hF;refine EN Try.func77 ?_;intro c0 w0 Q h0 hQ
 refine WK [(0,AV.ptr 0 0),(1,Lb v1),(2,AV.ptr 1 0)] [(0,.cells (List.map (AV.int .u32) v0)),(1,.cells (List.map (AV.int .u32) v2))] 2 (by simp) (by simp) ?_;refine SW trivial [] [none] [] [(6,AV.ptr 2 0)] [] [(2,.cells (List.map (AV.int .u32) (List.replicate 64 0)))] 3 ?_;refine AW.seq fun K336 hK336=>?_;refine SW trivial [] [none] [] [(19,Iz 0)] [] [] 3 ?_;refine AW.block ?_;refine AW.loopF (α:=(Int×(List Int))) (fun n (v4,v5)=>AaL.L1 k v0 v1 v2 n v4 v5=some v3) (fun (v4,v5)=>[(0,AV.ptr 0 0),(1,Lb v1),(2,AV.ptr 1 0),(6,AV.ptr 2 0),(19,Iz v4)]) (fun (v4,v5)=>[(0,.cells (List.map (AV.int .u32) v0)),(1,.cells (List.map (AV.int .u32) v2)),(2,.cells (List.map (AV.int .u32) v5))]) 3 k ((0,(List.replicate 64 0))) hF (by simp) (by simp) (by simp) ?_;rintro (_|n1) ⟨v4,v5⟩ hF K362 hK362
 ·try dsimp only at hF
  rw [AaL.L1] at hF; cases hF
 try dsimp only at hF
 rw [AaL.L1] at hF;refine SW trivial [] [none] [] [(20,AV.bool (decide (v4<16)))] [] [] 3 ?_;refine AW.seq fun K364 hK364=>?_;by_cases h1 : v4<16
 ·replace hF:=AaQ h1 hF;have h1_:=h1;try simp at h1_
  refine CT (by simp [h1,h1_] <;> omega) ?_;refine AW.skip ?_;refine hK364 _ _ _ ?_;refine AW.seq fun K367 hK367=>?_;refine AW.block ?_;refine SW (A2 h1 h1_) [] [none,none] [] [(7,Iz v4)] [] [] 3 ?_;refine RG [] [none,none,none,none,none,none,none,none,none,none,none,none,none,none,none,none,none,none,none,none,none,none,none,none,none,none,none,none,none,none,none,none,none,none,none,none] fun _ _ g r=>?_;obtain ⟨v6,h2,h3,h4,hF⟩:=Aah hF;have h4_:=Aa7 h4;try simp at h4_
  have h3_:=h3;try simp at h3_
  obtain ⟨v7,h5,h6,h7,hF⟩:=Aah hF;have h7_:=Aa7 h7;try simp at h7_
  have h6_:=h6;try simp at h6_
  obtain ⟨v8,h8,h9,h10,hF⟩:=Aah hF;have h10_:=Aa7 h10;try simp at h10_
  have h9_:=h9;try simp at h9_
  obtain ⟨v9,h11,h12,h13,hF⟩:=Aah hF;have h13_:=Aa7 h13;try simp at h13_
  have h12_:=h12;try simp at h12_
  obtain ⟨⟨h14,h16,h15⟩,hF⟩:=AaS hF;have h15_:=Aa8 h15;have F1:=A9 h1 h1_ h2 h3 h4 h4_ h3_ h5 (A9 h6 h7 h7_ h6_ h8 h9 h10 h10_ (A9 h9_ h11 h12 h13 h13_ h12_ h14 h15 (A2 h16 h15_)));try simp [F1]
  and_intros <;> first | exact GK g | apply r | omega | (simp [maxLen,F1] <;> omega)
  refine hK367 _ _ _ ?_;refine WK [(0,AV.ptr 0 0),(1,Lb v1),(2,AV.ptr 1 0),(6,AV.ptr 2 0),(19,Iz v4)] [(0,.cells (List.map (AV.int .u32) v0)),(1,.cells (List.map (AV.int .u32) v2)),(2,.cells (List.map (AV.int .u32) (v5.set (v4).toNat (AaG .or .u32 (AaG .or .u32 (AaG .or .u32 (IntKind.wrap .u32 ((IntKind.wrap .u32 v6)*2 ^ (24))) (IntKind.wrap .u32 ((IntKind.wrap .u32 v7)*2 ^ (16)))) (IntKind.wrap .u32 ((IntKind.wrap .u32 v8)*2 ^ (8)))) (IntKind.wrap .u32 v9)))))] 3 (by simp [F1]) (by simp [F1]) ?_;refine RG [] [none,none] fun _ _ g r=>?_;try simp [F1]
  and_intros <;> first | exact GK g | apply r | omega | (simp [maxLen,F1] <;> omega)
  refine hK362 _ _ _ ?_;exact NX (k':=n1) ((IntKind.wrap .i64 (v4+1),v5.set (v4).toNat (AaG .or .u32 (AaG .or .u32 (AaG .or .u32 (IntKind.wrap .u32 ((IntKind.wrap .u32 v6)*2 ^ (24))) (IntKind.wrap .u32 ((IntKind.wrap .u32 v7)*2 ^ (16)))) (IntKind.wrap .u32 ((IntKind.wrap .u32 v8)*2 ^ (8)))) (IntKind.wrap .u32 v9)))) hF (by simp [F1]) (by simp [F1])
 ·replace hF:=AaR h1 hF;have h1_:=h1;try simp at h1_
  refine CF (by simp [h1,h1_] <;> omega) ?_;refine AW.exit ?_;try simp
  refine hK336 _ _ _ ?_;refine SW (A2 h1 h1_) [] [none] [1,19] [(8,AV.fn 111 [])] [] [] 3 ?_;refine AW.seq fun K410 hK410=>?_;refine SW (A2 h1 h1_) [] [none] [] [(9,Iz 16)] [] [] 3 ?_;refine AW.block ?_;refine AW.loopF (α:=(Int×(List Int))) (fun n (v10,v11)=>AaL.L2 k v0 v2 n v10 v11=some v3) (fun (v10,v11)=>[(0,AV.ptr 0 0),(2,AV.ptr 1 0),(6,AV.ptr 2 0),(8,AV.fn 111 []),(9,Iz v10)]) (fun (v10,v11)=>[(0,.cells (List.map (AV.int .u32) v0)),(1,.cells (List.map (AV.int .u32) v2)),(2,.cells (List.map (AV.int .u32) v11))]) 3 k ((16,v5)) hF (by simp [h1,h1_]) (by simp [h1,h1_]) (by simp) ?_;rintro (_|n2) ⟨v10,v11⟩ hF K439 hK439
  ·try dsimp only at hF
   rw [AaL.L2] at hF; cases hF
  try dsimp only at hF
  rw [AaL.L2] at hF;refine AW.seq fun K441 hK441=>?_;refine SW (A2 h1 h1_) [] [none,none] [] [(59,AV.bool (decide (v10<64)))] [] [] 3 ?_;by_cases h17 : v10<64
  ·replace hF:=AaQ h17 hF;have h17_:=h17;try simp at h17_
   have F2:=A4 h1 h1_ h17 h17_;refine CT (by simp [F2] <;> omega) ?_;refine AW.skip ?_;refine hK441 _ _ _ ?_;refine AW.seq fun K445 hK445=>?_;refine AW.block ?_;refine SR [] [none,none,none,none,none,none,none,none,none,none] fun _ _ g r=>?_;obtain ⟨⟨h18,h20,h19⟩,hF⟩:=AaS hF;have h19_:=Aa8 h19;obtain ⟨v12,h21,h22,h23,hF⟩:=Aah hF;have h23_:=Aa7 h23;try simp at h23_
   have h22_:=h22;try simp at h22_
   obtain ⟨⟨h24,h26,h25⟩,hF⟩:=AaS hF;have h25_:=Aa8 h25;obtain ⟨v13,h27,h28,h29,hF⟩:=Aah hF;have h29_:=Aa7 h29;try simp at h29_
   have h28_:=h28;try simp at h28_
   have F3:=A9 F2 h18 h19 h20 h19_ h21 h22 h23 (A9 h23_ h22_ h24 h25 h26 h25_ h27 h28 (A3 h29 h29_ h28_));refine TL F3 g r [] [(10,AV.int .u32 v12),(11,AV.int .u32 v13)] [] [] 3 ?_;refine RG [] [none,none,none,none,none,none,none,none,none,none,none,none,none,none,none,none,none,none,none,none,none,none,none,none,none,none,none,none,none,none,none,none,none,none] fun _ _ g r=>?_;obtain ⟨⟨h30,h32,h31⟩,hF⟩:=AaS hF;have h31_:=Aa8 h31;obtain ⟨v14,h33,h34,h35,hF⟩:=Aah hF;have h35_:=Aa7 h35;try simp at h35_
   have h34_:=h34;try simp at h34_
   have F4:=A9 F3 h30 h31 h32 h31_ h33 h34 h35 (A2 h35_ h34_);try simp [F4]
   and_intros
   try any_goals first | omega | (simp [maxLen,F4] <;> omega)
   obtain ⟨v15,h36,hF⟩:=AaF hF;refine AC (Aa1 k _ _ _ h36) (.cons (.same (by simp [F4])) (.cons (.same (by simp [F4])) .nil)) ?_;try simp [F4]
   and_intros
   try any_goals first | omega | (simp [maxLen,F4] <;> omega)
   obtain ⟨v16,h37,hF⟩:=AaF hF;refine AC (Aa1 k _ _ _ h37) (.cons (.same (by simp [F4])) (.cons (.same (by simp [F4])) .nil)) ?_;obtain ⟨⟨h38,h40,h39⟩,hF⟩:=AaS hF;have h39_:=Aa8 h39;obtain ⟨v17,h41,h42,h43,hF⟩:=Aah hF;have h43_:=Aa7 h43;try simp at h43_
   have h42_:=h42;try simp at h42_
   have F5:=A9 F4 h38 h39 h40 h39_ h41 h42 h43 (A2 h43_ h42_);try simp [F5]
   and_intros
   try any_goals first | omega | (simp [maxLen,F5] <;> omega)
   obtain ⟨v18,h44,hF⟩:=AaF hF;refine AC (Aa1 k _ _ _ h44) (.cons (.same (by simp [F5])) (.cons (.same (by simp [F5])) .nil)) ?_;try simp [F5]
   and_intros
   try any_goals first | omega | (simp [maxLen,F5] <;> omega)
   obtain ⟨v19,h45,hF⟩:=AaF hF;refine AC (Aa1 k _ _ _ h45) (.cons (.same (by simp [F5])) (.cons (.same (by simp [F5])) .nil)) ?_;obtain ⟨⟨h46,h48,h47⟩,hF⟩:=AaS hF;have h47_:=Aa8 h47;have F6:=A5 F5 h46 h47 h48 h47_;try simp [F6]
   and_intros <;> first | exact GK g | apply r | omega | (simp [maxLen,F6] <;> omega)
   refine hK445 _ _ _ ?_;refine WK [(0,AV.ptr 0 0),(2,AV.ptr 1 0),(6,AV.ptr 2 0),(8,AV.fn 111 []),(9,Iz v10)] [(0,.cells (List.map (AV.int .u32) v0)),(1,.cells (List.map (AV.int .u32) v2)),(2,.cells (List.map (AV.int .u32) (v11.set (v10).toNat (IntKind.wrap .u32 (IntKind.wrap .u32 (IntKind.wrap .u32 (v14+AaG .xor .u32 (AaG .xor .u32 v15 v16) (Int.fdiv v12 (2 ^ (3))))+v17)+AaG .xor .u32 (AaG .xor .u32 v18 v19) (Int.fdiv v13 (2 ^ (10))))))))] 3 (by simp [F6]) (by simp [F6]) ?_;refine RG [] [none,none,none] fun _ _ g r=>?_;try simp [F6]
   and_intros <;> first | exact GK g | apply r | omega | (simp [maxLen,F6] <;> omega)
   refine hK439 _ _ _ ?_;exact NX (k':=n2) ((IntKind.wrap .i64 (v10+1),v11.set (v10).toNat (IntKind.wrap .u32 (IntKind.wrap .u32 (IntKind.wrap .u32 (v14+AaG .xor .u32 (AaG .xor .u32 v15 v16) (Int.fdiv v12 (2 ^ (3))))+v17)+AaG .xor .u32 (AaG .xor .u32 v18 v19) (Int.fdiv v13 (2 ^ (10))))))) hF (by simp [F6]) (by simp [F6])
  ·replace hF:=AaR h17 hF;have h17_:=h17;try simp at h17_
   have F7:=A4 h1 h1_ h17 h17_;refine CF (by simp [F7] <;> omega) ?_;refine AW.exit ?_;try simp
   refine hK410 _ _ _ ?_;refine SR [] [none,none,none,none,none] fun _ _ g r=>?_;obtain ⟨h49,hF⟩:=AaS hF;have h49_:=Afw h49 (by decide);obtain ⟨h50,hF⟩:=AaS hF;have F8:=A4 F7 h49 h49_ h50;refine TL F8 g r [9] [(12,AV.ptr 3 0)] [] [(3,.cells (List.map (AV.int .u32) v0))] 4 ?_;refine AW.seq fun K508 hK508=>?_;refine SW F8 [] [none] [] [(106,Iz 0)] [] [] 4 ?_;refine AW.block ?_;refine AW.loopF (α:=(Int×(List Int))) (fun n (v20,v21)=>AaL.L3 k v0 v2 v11 n v20 v21=some v3) (fun (v20,v21)=>[(0,AV.ptr 0 0),(2,AV.ptr 1 0),(6,AV.ptr 2 0),(8,AV.fn 111 []),(12,AV.ptr 3 0),(106,Iz v20)]) (fun (v20,v21)=>[(0,.cells (List.map (AV.int .u32) v0)),(1,.cells (List.map (AV.int .u32) v2)),(2,.cells (List.map (AV.int .u32) v11)),(3,.cells (List.map (AV.int .u32) v21))]) 4 k ((0,v0)) hF (by simp [F8]) (by simp [F8]) (by simp) ?_;rintro (_|n3) ⟨v20,v21⟩ hF K552 hK552
   ·try dsimp only at hF
    rw [AaL.L3] at hF; cases hF
   try dsimp only at hF
   rw [AaL.L3] at hF;refine SW F8 [] [none] [] [(107,AV.bool (decide (v20<64)))] [] [] 4 ?_;refine AW.seq fun K554 hK554=>?_;by_cases h51 : v20<64
   ·replace hF:=AaQ h51 hF;have h51_:=h51;try simp at h51_
    have F9:=A3 F8 h51 h51_;refine CT (by simp [F9] <;> omega) ?_;refine AW.skip ?_;refine hK554 _ _ _ ?_;refine AW.seq fun K560 hK560=>?_;refine AW.block ?_;refine SW F9 [] [none,none] [] [(13,Iz v20)] [] [] 4 ?_;refine SR [] [none,none,none,none,none,none] fun _ _ g r=>?_;obtain ⟨⟨h52,h54,h53⟩,hF⟩:=AaS hF;have h53_:=Aa8 h53;obtain ⟨v22,h55,h56,h57,hF⟩:=Aah hF;have h57_:=Aa7 h57;try simp at h57_
    have h56_:=h56;try simp at h56_
    have h57z:=Aly h57;obtain ⟨⟨h58,h60,h59⟩,hF⟩:=AaS hF;have h59_:=Aa8 h59;obtain ⟨v23,h61,h62,h63,hF⟩:=Aah hF;have h63_:=Aa7 h63;try simp at h63_
    have h62_:=h62;try simp at h62_
    have F10:=A9 F9 h52 h53 h54 h53_ h55 h56 h57 (A9 h57_ h56_ h57z h58 h59 h60 h59_ h61 (A4 h62 h63 h63_ h62_));refine TL F10 g r [] [(14,AV.int .u32 v22),(15,AV.int .u32 v23)] [] [] 4 ?_;refine SR [] [none,none,none,none,none,none,none,none,none,none,none,none,none,none,none,none,none,none,none,none,none,none,none,none,none,none,none,none,none,none,none,none,none,none,none,none] fun _ _ g r=>?_;obtain ⟨⟨h64,h66,h65⟩,hF⟩:=AaS hF;have h65_:=Aa8 h65;obtain ⟨v24,h67,h68,h69,hF⟩:=Aah hF;have h69_:=Aa7 h69;try simp at h69_
    have h68_:=h68;try simp at h68_
    have F11:=A9 F10 h64 h65 h66 h65_ h67 h68 h69 (A2 h69_ h68_);try simp [F11]
    and_intros
    try any_goals first | omega | (simp [maxLen,F11] <;> omega)
    obtain ⟨v25,h70,hF⟩:=AaF hF;refine AC (Aa1 k _ _ _ h70) (.cons (.same (by simp [F11])) (.cons (.same (by simp [F11])) .nil)) ?_;try simp [F11]
    and_intros
    try any_goals first | omega | (simp [maxLen,F11] <;> omega)
    obtain ⟨v26,h71,hF⟩:=AaF hF;refine AC (Aa1 k _ _ _ h71) (.cons (.same (by simp [F11])) (.cons (.same (by simp [F11])) .nil)) ?_;try simp [F11]
    and_intros
    try any_goals first | omega | (simp [maxLen,F11] <;> omega)
    obtain ⟨v27,h72,hF⟩:=AaF hF;refine AC (Aa1 k _ _ _ h72) (.cons (.same (by simp [F11])) (.cons (.same (by simp [F11])) .nil)) ?_;obtain ⟨⟨h73,h75,h74⟩,hF⟩:=AaS hF;have h74_:=Aa8 h74;obtain ⟨v28,h76,h77,h78,hF⟩:=Aah hF;have h78_:=Aa7 h78;try simp at h78_
    have h77_:=h77;try simp at h77_
    obtain ⟨⟨h79,h81,h80⟩,hF⟩:=AaS hF;have h80_:=Aa8 h80;obtain ⟨v29,h82,h83,h84,hF⟩:=Aah hF;have h84_:=Aa7 h84;try simp at h84_
    have h83_:=h83;try simp at h83_
    obtain ⟨⟨h85,h87,h86⟩,hF⟩:=AaS hF;have h86_:=Aa8 h86;obtain ⟨v30,h88,h89,h90,hF⟩:=Aah hF;have h90_:=Aa7 h90;try simp at h90_
    have h89_:=h89;try simp at h89_
    obtain ⟨⟨h91,h93,h92⟩,hF⟩:=AaS hF;have h92_:=Aa8 h92;obtain ⟨v31,h94,h95,h96,hF⟩:=Aah hF;have h96_:=Aa7 h96;try simp at h96_
    have h95_:=h95;try simp at h95_
    have F12:=A9 F11 h73 h74 h75 h74_ h76 h77 h78 (A9 h78_ h77_ h79 h80 h81 h80_ h82 h83 (A9 h84 h84_ h83_ h85 h86 h87 h86_ h88 (A9 h89 h90 h90_ h89_ h91 h92 h93 h92_ (A5 h94 h95 h96 h96_ h95_))));refine TL F12 g r [13,15] [(16,AV.int .u32 (IntKind.wrap .u32 (IntKind.wrap .u32 (IntKind.wrap .u32 (IntKind.wrap .u32 (v24+AaG .xor .u32 (AaG .xor .u32 v25 v26) v27)+AaG .xor .u32 (AaG .and .u32 v23 v28) (AaG .and .u32 (AaG .xor .u32 (IntKind.max .u32) v23) v29))+v30)+v31)))] [] [] 4 ?_;refine SR [] [none,none,none,none,none,none,none,none,none,none,none,none,none,none,none,none,none,none,none,none,none,none,none,none,none,none,none,none] fun _ _ g r=>?_;try simp [F12]
    and_intros
    try any_goals first | omega | (simp [maxLen,F12] <;> omega)
    obtain ⟨v32,h97,hF⟩:=AaF hF;refine AC (Aa1 k _ _ _ h97) (.cons (.same (by simp [F12])) (.cons (.same (by simp [F12])) .nil)) ?_;try simp [F12]
    and_intros
    try any_goals first | omega | (simp [maxLen,F12] <;> omega)
    obtain ⟨v33,h98,hF⟩:=AaF hF;refine AC (Aa1 k _ _ _ h98) (.cons (.same (by simp [F12])) (.cons (.same (by simp [F12])) .nil)) ?_;try simp [F12]
    and_intros
    try any_goals first | omega | (simp [maxLen,F12] <;> omega)
    obtain ⟨v34,h99,hF⟩:=AaF hF;refine AC (Aa1 k _ _ _ h99) (.cons (.same (by simp [F12])) (.cons (.same (by simp [F12])) .nil)) ?_;obtain ⟨⟨h100,h102,h101⟩,hF⟩:=AaS hF;have h101_:=Aa8 h101;obtain ⟨v35,h103,h104,h105,hF⟩:=Aah hF;have h105_:=Aa7 h105;try simp at h105_
    have h104_:=h104;try simp at h104_
    obtain ⟨⟨h106,h108,h107⟩,hF⟩:=AaS hF;have h107_:=Aa8 h107;obtain ⟨v36,h109,h110,h111,hF⟩:=Aah hF;have h111_:=Aa7 h111;try simp at h111_
    have h110_:=h110;try simp at h110_
    obtain ⟨⟨h112,h114,h113⟩,hF⟩:=AaS hF;have h113_:=Aa8 h113;obtain ⟨⟨h115,h117,h116⟩,hF⟩:=AaS hF;have h116_:=Aa8 h116;have F13:=A9 F12 h100 h101 h102 h101_ h103 h104 h105 (A9 h105_ h104_ h106 h107 h108 h107_ h109 h110 (A9 h111 h111_ h110_ h112 h113 h114 h113_ h115 (A3 h116 h117 h116_)));refine TL F13 g r [14] [(17,AV.int .u32 (IntKind.wrap .u32 (AaG .xor .u32 (AaG .xor .u32 v32 v33) v34+AaG .xor .u32 (AaG .xor .u32 (AaG .and .u32 v22 v35) (AaG .and .u32 v22 v36)) (AaG .and .u32 v35 v36))))] [] [] 4 ?_;refine RG [] [none,none,none,none,none,none,none,none,none,none,none,none,none,none,none,none,none,none,none,none,none] fun _ _ g r=>?_;obtain ⟨⟨h118,h120,h119⟩,hF⟩:=AaS hF;have h119_:=Aa8 h119;obtain ⟨⟨h121,h123,h122⟩,hF⟩:=AaS hF;have h122_:=Aa8 h122;obtain ⟨⟨h124,h126,h125⟩,hF⟩:=AaS hF;have h125_:=Aa8 h125;obtain ⟨⟨h127,h129,h128⟩,hF⟩:=AaS hF;have h128_:=Aa8 h128;obtain ⟨v37,h130,h131,h132,hF⟩:=Aah hF;have h132_:=Aa7 h132;try simp at h132_
    have h131_:=h131;try simp at h131_
    obtain ⟨⟨h133,h135,h134⟩,hF⟩:=AaS hF;have h134_:=Aa8 h134;obtain ⟨⟨h136,h138,h137⟩,hF⟩:=AaS hF;have h137_:=Aa8 h137;obtain ⟨⟨h139,h141,h140⟩,hF⟩:=AaS hF;have h140_:=Aa8 h140;obtain ⟨h142,hF⟩:=AaS hF;have F14:=A9 F13 h118 h119 h120 h119_ h121 h122 h123 (A9 h122_ h124 h125 h126 h125_ h127 h128 h129 (A9 h128_ h130 h131 h132 h132_ h131_ h133 h134 (A9 h135 h134_ h136 h137 h138 h137_ h139 h140 (A3 h141 h140_ h142))));try simp [F14]
    and_intros <;> first | exact GK g | apply r | omega | (simp [maxLen,F14] <;> omega)
    refine hK560 _ _ _ ?_;refine WK [(0,AV.ptr 0 0),(2,AV.ptr 1 0),(6,AV.ptr 2 0),(8,AV.fn 111 []),(12,AV.ptr 3 0),(106,Iz v20)] [(0,.cells (List.map (AV.int .u32) v0)),(1,.cells (List.map (AV.int .u32) v2)),(2,.cells (List.map (AV.int .u32) v11)),(3,.cells (List.map (AV.int .u32) ([IntKind.wrap .u32 (IntKind.wrap .u32 (IntKind.wrap .u32 (IntKind.wrap .u32 (IntKind.wrap .u32 (v24+AaG .xor .u32 (AaG .xor .u32 v25 v26) v27)+AaG .xor .u32 (AaG .and .u32 v23 v28) (AaG .and .u32 (AaG .xor .u32 (IntKind.max .u32) v23) v29))+v30)+v31)+IntKind.wrap .u32 (AaG .xor .u32 (AaG .xor .u32 v32 v33) v34+AaG .xor .u32 (AaG .xor .u32 (AaG .and .u32 v22 v35) (AaG .and .u32 v22 v36)) (AaG .and .u32 v35 v36))),v22,v35,v36,IntKind.wrap .u32 (v37+IntKind.wrap .u32 (IntKind.wrap .u32 (IntKind.wrap .u32 (IntKind.wrap .u32 (v24+AaG .xor .u32 (AaG .xor .u32 v25 v26) v27)+AaG .xor .u32 (AaG .and .u32 v23 v28) (AaG .and .u32 (AaG .xor .u32 (IntKind.max .u32) v23) v29))+v30)+v31)),v23,v28,v29] : List Int)))] 4 (by simp [F14]) (by simp [F14]) ?_;refine RG [] [none,none] fun _ _ g r=>?_;try simp [F14]
    and_intros <;> first | exact GK g | apply r | omega | (simp [maxLen,F14] <;> omega)
    refine hK552 _ _ _ ?_;exact NX (k':=n3) ((IntKind.wrap .i64 (v20+1),([IntKind.wrap .u32 (IntKind.wrap .u32 (IntKind.wrap .u32 (IntKind.wrap .u32 (IntKind.wrap .u32 (v24+AaG .xor .u32 (AaG .xor .u32 v25 v26) v27)+AaG .xor .u32 (AaG .and .u32 v23 v28) (AaG .and .u32 (AaG .xor .u32 (IntKind.max .u32) v23) v29))+v30)+v31)+IntKind.wrap .u32 (AaG .xor .u32 (AaG .xor .u32 v32 v33) v34+AaG .xor .u32 (AaG .xor .u32 (AaG .and .u32 v22 v35) (AaG .and .u32 v22 v36)) (AaG .and .u32 v35 v36))),v22,v35,v36,IntKind.wrap .u32 (v37+IntKind.wrap .u32 (IntKind.wrap .u32 (IntKind.wrap .u32 (IntKind.wrap .u32 (v24+AaG .xor .u32 (AaG .xor .u32 v25 v26) v27)+AaG .xor .u32 (AaG .and .u32 v23 v28) (AaG .and .u32 (AaG .xor .u32 (IntKind.max .u32) v23) v29))+v30)+v31)),v23,v28,v29] : List Int))) hF (by simp [F14]) (by simp [F14])
   ·replace hF:=AaR h51 hF;have h51_:=h51;try simp at h51_
    have F15:=A3 F8 h51 h51_;refine CF (by simp [F15] <;> omega) ?_;refine AW.exit ?_;try simp
    refine hK508 _ _ _ ?_;refine SW F15 [] [none] [2,6,8,106] [(196,Iz 0)] [2] [] 4 ?_;refine AW.block ?_;refine AW.rnm (m:=2) h0 [(0,0),(1,1),(2,3)] [(0,AV.ptr 0 0),(12,AV.ptr 2 0),(196,Iz 0)] [(0,.cells (List.map (AV.int .u32) v0)),(1,.cells (List.map (AV.int .u32) v2)),(2,.cells (List.map (AV.int .u32) v21))] 3 (by decide) (by decide) (by decide) rfl (by simp [F15]) (by simp [F15]) ?_;refine AW.loopF (α:=(Int×(List Int))) (fun n (v38,v39)=>AaL.L4 k v21 n v38 v39=some v3) (fun (v38,v39)=>[(0,AV.ptr 0 0),(12,AV.ptr 2 0),(196,Iz v38)]) (fun (v38,v39)=>[(0,.cells (List.map (AV.int .u32) v39)),(1,.cells (List.map (AV.int .u32) v2)),(2,.cells (List.map (AV.int .u32) v21))]) 3 k ((0,v0)) hF (by simp [F15]) (by simp [F15]) (by simp) ?_;rintro (_|n4) ⟨v38,v39⟩ hF K592 hK592
    ·try dsimp only at hF
     rw [AaL.L4] at hF; cases hF
    try dsimp only at hF
    rw [AaL.L4] at hF;refine SW F15 [] [none] [] [(197,AV.bool (decide (v38<8)))] [] [] 3 ?_;refine AW.seq fun K594 hK594=>?_;by_cases h143 : v38<8
    ·replace hF:=AaQ h143 hF;have h143_:=h143;try simp at h143_
     have F16:=A3 F15 h143 h143_;refine CT (by simp [F16] <;> omega) ?_;refine AW.skip ?_;refine hK594 _ _ _ ?_;refine AW.seq fun K597 hK597=>?_;refine AW.block ?_;refine SW F16 [] [none,none] [] [(18,Iz v38)] [] [] 3 ?_;refine RG [] [none,none,none,none,none,none,none,none,none,none,none,none] fun _ _ g r=>?_;obtain ⟨⟨h144,h146,h145⟩,hF⟩:=AaS hF;have h145_:=Aa8 h145;obtain ⟨v40,h147,h148,h149,hF⟩:=Aah hF;have h149_:=Aa7 h149;try simp at h149_
     have h148_:=h148;try simp at h148_
     obtain ⟨⟨h150,h152,h151⟩,hF⟩:=AaS hF;have h151_:=Aa8 h151;obtain ⟨v41,h153,h154,h155,hF⟩:=Aah hF;have h155_:=Aa7 h155;try simp at h155_
     have h154_:=h154;try simp at h154_
     obtain ⟨⟨h156,h158,h157⟩,hF⟩:=AaS hF;have h157_:=Aa8 h157;have F17:=A9 F16 h144 h145 h146 h145_ h147 h148 h149 (A9 h149_ h148_ h150 h151 h152 h151_ h153 h154 (A7 h155 h155_ h154_ h156 h157 h158 h157_));try simp [F17]
     and_intros <;> first | exact GK g | apply r | omega | (simp [maxLen,F17] <;> omega)
     refine hK597 _ _ _ ?_;refine WK [(0,AV.ptr 0 0),(12,AV.ptr 2 0),(196,Iz v38)] [(0,.cells (List.map (AV.int .u32) (v39.set (v38).toNat (IntKind.wrap .u32 (v40+v41))))),(1,.cells (List.map (AV.int .u32) v2)),(2,.cells (List.map (AV.int .u32) v21))] 3 (by simp [F17]) (by simp [F17]) ?_;refine RG [] [none,none] fun _ _ g r=>?_;try simp [F17]
     and_intros <;> first | exact GK g | apply r | omega | (simp [maxLen,F17] <;> omega)
     refine hK592 _ _ _ ?_;exact NX (k':=n4) ((IntKind.wrap .i64 (v38+1),v39.set (v38).toNat (IntKind.wrap .u32 (v40+v41)))) hF (by simp [F17]) (by simp [F17])
    ·replace hF:=AaR h143 hF;have h143_:=h143;try simp at h143_
     have F18:=A3 F15 h143 h143_;refine CF (by simp [F18] <;> omega) ?_;refine AW.exit ?_;try simp
     simp only [Option.some.injEq] at hF;subst hF;refine (hQ _ _ _ ?_ (AaC ?_)).2
     ·simp [Try.f77,F18]
     ·simp [F18]
theorem Aiq (k : Nat) (v0 : (List Int)) (v1 : ByteArray) (hF : Aal k v0=some v1) :
 AbK Try.prog 44 [AV.lst false false (List.map (AV.int .u8) v0)] [] (AV.str v1) []:=by
 unfold Aal at hF;refine EN Try.func44 ?_;intro c0 w0 Q h0 hQ
 refine WK [(0,Lb v0)] [] 0 (by simp) (by simp) ?_;refine SW trivial [] [none] [] [] [] [] 0 ?_;refine SQ [12] [none,none,none,none,none] fun _ _ g r=>?_;obtain ⟨h1,hF⟩:=AaS hF;have h1_:=h1;try simp at h1_
 obtain ⟨h2,hF⟩:=AaS hF;have h2_:=h2;try simp at h2_
 try simp [h1,h2]
 and_intros <;> first | exact GK g | apply r | omega | (simp [h1,h2,maxLen] <;> omega)
 refine WK [(0,Lb v0),(3,AV.slc 1 0 1 ((v0++([128] : List Int)).length) false)] [(1,.grow (List.map (AV.int .u8) (v0++([128] : List Int))))] 2 (by simp [h1,h2] <;> omega) (by simp [h1,h2]) ?_;refine AW.seq fun K250 hK250=>?_;refine AW.block ?_;refine RM h0 [(0,1)] [(0,Lb v0),(3,AV.slc 0 0 1 ((v0++([128] : List Int)).length) false)] [(0,.grow (List.map (AV.int .u8) (v0++([128] : List Int))))] 1 (by simp [h1,h2]) (by simp [h1,h2]) ?_;refine AW.loopF (α:=(List Int)) (fun n v2=>Aal.L1 k v0 n v2=some v1) (fun v2=>[(0,Lb v0),(3,AV.slc 0 0 1 v2.length false)]) (fun v2=>[(0,.grow (List.map (AV.int .u8) v2))]) 1 k (v0++([128] : List Int)) hF (by simp [h1,h2]) (by simp [h1,h2]) (by simp) ?_;rintro (_|n1) v2 hF K263 hK263
 ·try dsimp only at hF
  rw [Aal.L1] at hF; cases hF
 try dsimp only at hF
 rw [Aal.L1] at hF;refine AW.seq fun K265 hK265=>?_;refine SW (A2 h1 h2) [] [none,none,none,none] [] [(18,AV.bool ((Int.tmod (v2.length : Int) 64) !=56))] [] [] 1 ?_;by_cases h3 : (Int.tmod (v2.length : Int) 64)≠56
 ·replace hF:=AaQ h3 hF;have h3_:=Abm h3;have h3__:=Abo h3;refine CT (by simp [h1,h2,h3,h3_,h3__] <;> omega) ?_;refine AW.skip ?_;refine hK265 _ _ _ ?_;refine AW.block ?_;refine RG [] [none,none,none,none] fun _ _ g r=>?_;obtain ⟨h4,hF⟩:=AaS hF;have h4_:=h4;try simp at h4_
  have F1:=A6 h1 h2 h3 h3_ h3__ h4;try simp [F1]
  and_intros <;> first | exact GK g | apply r | omega | (simp [maxLen,F1] <;> omega)
  refine hK263 _ _ _ ?_;refine RN h0 [(0,1)] [(0,Lb v0),(3,AV.slc 0 0 1 ((v2++([0] : List Int)).length) false)] [(0,.grow (List.map (AV.int .u8) (v2++([0] : List Int))))] 1 (by simp [F1] <;> omega) (by simp [F1]) ?_;exact NX (k':=n1) (v2++([0] : List Int)) hF (by simp [F1]) (by simp [F1])
 ·replace hF:=AaR h3 hF;have h3q : (Int.tmod (v2.length : Int) 64)=56:=Classical.not_not.1 h3;have h3_:=Abr h3q;have h3__:=Abp h3q;have F2:=A5 h1 h2 h3_ h3__ h3q;refine CF (by simp [F2] <;> omega) ?_;refine AW.exit ?_;try simp
  refine hK250 _ _ _ ?_;refine SW F2 [] [none,none,none,none,none] [0] [(4,AV.int .u64 (IntKind.wrap .u64 (IntKind.wrap .u64 (v0.length : Int)*8)))] [] [] 1 ?_;refine AW.seq fun K299 hK299=>?_;refine SW F2 [] [none] [] [(5,Iz 56)] [] [] 1 ?_;refine AW.block ?_;refine AW.loopF (α:=(Int×(List Int))) (fun n (v3,v4)=>Aal.L2 k v0 n v3 v4=some v1) (fun (v3,v4)=>[(3,AV.slc 0 0 1 v4.length false),(4,AV.int .u64 (IntKind.wrap .u64 (IntKind.wrap .u64 (v0.length : Int)*8))),(5,Iz v3)]) (fun (v3,v4)=>[(0,.grow (List.map (AV.int .u8) v4))]) 1 k ((56,v2)) hF (by simp [F2]) (by simp [F2]) (by simp) ?_;rintro (_|n2) ⟨v3,v4⟩ hF K322 hK322
  ·try dsimp only at hF
   rw [Aal.L2] at hF; cases hF
  try dsimp only at hF
  rw [Aal.L2] at hF;refine AW.seq fun K324 hK324=>?_;refine SW F2 [] [none,none] [] [(27,AV.bool (decide (0≤v3)))] [] [] 1 ?_;by_cases h5 : 0≤v3
  ·replace hF:=AaQ h5 hF;have h5_:=h5;try simp at h5_
   have F3:=A3 F2 h5 h5_;refine CT (by simp [F3] <;> omega) ?_;refine AW.skip ?_;refine hK324 _ _ _ ?_;refine AW.seq fun K327 hK327=>?_;refine AW.block ?_;refine RG [] [none,none,none,none,none,none,none,none,none] fun _ _ g r=>?_;obtain ⟨h6,hF⟩:=AaS hF;obtain ⟨h7,hF⟩:=AaS hF;have h7_:=h7;try simp at h7_
   have F4:=A3 F3 h6 h7;try simp [F4]
   and_intros <;> first | exact GK g | apply r | omega | (simp [maxLen,F4] <;> omega)
   refine hK327 _ _ _ ?_;refine WK [(3,AV.slc 1 0 1 ((v4++([IntKind.wrap .u8 (Int.fdiv (IntKind.wrap .u64 (IntKind.wrap .u64 (v0.length : Int)*8)) (2 ^ (min ((IntKind.wrap .u64 v3).toNat) 64)))] : List Int)).length) false),(4,AV.int .u64 (IntKind.wrap .u64 (IntKind.wrap .u64 (v0.length : Int)*8))),(5,Iz v3)] [(1,.grow (List.map (AV.int .u8) (v4++([IntKind.wrap .u8 (Int.fdiv (IntKind.wrap .u64 (IntKind.wrap .u64 (v0.length : Int)*8)) (2 ^ (min ((IntKind.wrap .u64 v3).toNat) 64)))] : List Int))))] 2 (by simp [F4] <;> omega) (by simp [F4]) ?_;refine RG [] [none,none,none] fun _ _ g r=>?_;try simp [F4]
   and_intros <;> first | exact GK g | apply r | omega | (simp [maxLen,F4] <;> omega)
   refine hK322 _ _ _ ?_;refine RN h0 [(0,1)] [(3,AV.slc 0 0 1 ((v4++([IntKind.wrap .u8 (Int.fdiv (IntKind.wrap .u64 (IntKind.wrap .u64 (v0.length : Int)*8)) (2 ^ (min ((IntKind.wrap .u64 v3).toNat) 64)))] : List Int)).length) false),(4,AV.int .u64 (IntKind.wrap .u64 (IntKind.wrap .u64 (v0.length : Int)*8))),(5,Iz (IntKind.wrap .i64 (v3-8)))] [(0,.grow (List.map (AV.int .u8) (v4++([IntKind.wrap .u8 (Int.fdiv (IntKind.wrap .u64 (IntKind.wrap .u64 (v0.length : Int)*8)) (2 ^ (min ((IntKind.wrap .u64 v3).toNat) 64)))] : List Int))))] 1 (by simp [F4] <;> omega) (by simp [F4]) ?_;exact NX (k':=n2) ((IntKind.wrap .i64 (v3-8),v4++([IntKind.wrap .u8 (Int.fdiv (IntKind.wrap .u64 (IntKind.wrap .u64 (v0.length : Int)*8)) (2 ^ (min ((IntKind.wrap .u64 v3).toNat) 64)))] : List Int))) hF (by simp [F4]) (by simp [F4])
  ·replace hF:=AaR h5 hF;have h5_:=h5;try simp at h5_
   have F5:=A3 F2 h5 h5_;refine CF (by simp [F5] <;> omega) ?_;refine AW.exit ?_;try simp
   refine hK299 _ _ _ ?_;refine WK [(3,AV.slc 0 0 1 v4.length false)] [(0,.grow (List.map (AV.int .u8) v4))] 1 (by simp [F5]) (by simp [F5]) ?_;refine AW.frz 0 (o := .grow (List.map (AV.int .u8) v4)) (by simp [F5]) rfl [(3,Lb v4)] [] ⟨(.l (by simp) (by simp) (by simp) (by simp)),trivial⟩ trivial ?_;refine WK [(3,Lb v4)] [] 1 (by simp [F5]) (by simp [F5]) ?_;refine SR [] [none,none,none,none,none,none] fun _ _ g r=>?_;try simp [F5]
   and_intros
   try any_goals first | omega | (simp [maxLen,F5] <;> omega)
   obtain ⟨v5,h8,hF⟩:=AaF hF;refine AC (Agv k _ h8) .nil ?_;obtain ⟨h9,hF⟩:=AaS hF;obtain ⟨h10,hF⟩:=AaS hF;have F6:=A3 F5 h9 h10;refine TL F6 g r [] [(6,AV.ptr 1 0),(7,AV.ptr 2 0)] [] [(1,.cells (List.map (AV.int .u32) ([1779033703,3144134277,1013904242,2773480762,1359893119,2600822924,528734635,1541459225] : List Int))),(2,.cells (List.map (AV.int .u32) v5))] 3 ?_;refine AW.seq fun K360 hK360=>?_;refine AW.block ?_;refine RM h0 [(0,1),(1,2)] [(3,Lb v4),(6,AV.ptr 0 0),(7,AV.ptr 1 0)] [(0,.cells (List.map (AV.int .u32) ([1779033703,3144134277,1013904242,2773480762,1359893119,2600822924,528734635,1541459225] : List Int))),(1,.cells (List.map (AV.int .u32) v5))] 2 (by simp [F6]) (by simp [F6]) ?_;refine AW.loopF (α:=((List Int)×(List Int))) (fun n (v6,v7)=>Aal.L3 k v5 n v6 v7=some v1) (fun (v6,v7)=>[(3,Lb v6),(6,AV.ptr 0 0),(7,AV.ptr 1 0)]) (fun (v6,v7)=>[(0,.cells (List.map (AV.int .u32) v7)),(1,.cells (List.map (AV.int .u32) v5))]) 2 k ((v4,([1779033703,3144134277,1013904242,2773480762,1359893119,2600822924,528734635,1541459225] : List Int))) hF (by simp [F6]) (by simp [F6]) (by simp) ?_;rintro (_|n3) ⟨v6,v7⟩ hF K382 hK382
   ·try dsimp only at hF
    rw [Aal.L3] at hF; cases hF
   try dsimp only at hF
   rw [Aal.L3] at hF;refine AW.seq fun K384 hK384=>?_;refine SW F6 [] [none,none,none] [] [(42,AV.bool (decide (0<(v6.length : Int))))] [] [] 2 ?_;by_cases h11 : 0<(v6.length : Int)
   ·replace hF:=AaQ h11 hF;have h11_:=h11;try simp at h11_
    have F7:=A3 F6 h11 h11_;refine CT (by simp [F7] <;> omega) ?_;refine AW.skip ?_;refine hK384 _ _ _ ?_;refine AW.seq fun K387 hK387=>?_;refine AW.block ?_;refine RG [] [none,none,none] fun _ _ g r=>?_;obtain ⟨h12,hF⟩:=AaS hF;have h12_:=h12;try simp at h12_
    have F8:=A3 F7 h12 h12_;try simp [F8]
    and_intros
    try any_goals first | omega | (simp [maxLen,F8] <;> omega)
    obtain ⟨v8,h13,hF⟩:=AaF hF;refine AaT (AfR k _ _ _ _ h13) (by simp) [0,1] [] [0] rfl (.cons (.same (by simp [F8])) (.cons (.same (by simp [F8])) (.cons (.same (by simp [F8])) .nil))) (by simp [F8]) (by decide) (by simp) (by simp) (.inl rfl) (by simp) (by simp) ?_;try simp [F8]
    and_intros <;> first | exact GK g | apply r | omega | (simp [maxLen,F8] <;> omega)
    refine hK387 _ _ _ ?_;refine WK [(3,Lb v6),(6,AV.ptr 0 0),(7,AV.ptr 1 0)] [(0,.cells (List.map (AV.int .u32) v8)),(1,.cells (List.map (AV.int .u32) v5))] 2 (by simp [F8]) (by simp [F8]) ?_;refine RG [] [none,none,none] fun _ _ g r=>?_;obtain ⟨h14,hF⟩:=AaS hF;have h14_:=h14;try simp at h14_
    have F9:=A3 F8 h14 h14_;try simp [F9]
    and_intros <;> first | exact GK g | apply r | omega | (simp [maxLen,F9] <;> omega)
    refine hK382 _ _ _ ?_;exact NX (k':=n3) ((v6.drop (64 : Int).toNat,v8)) hF (by simp [F9]) (by simp [F9])
   ·replace hF:=AaR h11 hF;have h11_:=h11;try simp at h11_
    have F10:=A3 F6 h11 h11_;refine CF (by simp [F10] <;> omega) ?_;refine AW.exit ?_;try simp
    refine hK360 _ _ _ ?_;refine SW F10 [] [none] [3,7] [(8,AV.lst true true (List.map (AV.int .u8) ([] : List Int)))] [1] [] 2 ?_;refine AW.seq fun K425 hK425=>?_;refine SR [] [none,none] fun _ _ g r=>?_;obtain ⟨h15,hF⟩:=AaS hF;have h15_:=Afw h15 (by decide);have F11:=A3 F10 h15 h15_;refine TL F11 g r [6] [(48,AV.agg (List.map (AV.int .u32) v7)),(49,Iz 0)] [0] [] 2 ?_;refine AW.block ?_;refine AW.own' 8 1 true (by simp [F11]) (by decide) ?_;refine RM h0 [(0,2)] [(8,AV.slc 0 0 1 (([] : List Int).length) false),(48,AV.agg (List.map (AV.int .u32) v7)),(49,Iz 0)] [(0,.grow (List.map (AV.int .u8) ([] : List Int)))] 1 (by simp [F11]) (by simp [F11]) ?_;refine AW.loopF (α:=(Int×(List Int))) (fun n (v9,v10)=>Aal.L4 k v7 n v9 v10=some v1) (fun (v9,v10)=>[(8,AV.slc 0 0 1 v10.length false),(48,AV.agg (List.map (AV.int .u32) v7)),(49,Iz v9)]) (fun (v9,v10)=>[(0,.grow (List.map (AV.int .u8) v10))]) 1 k ((0,([] : List Int))) hF (by simp [F11]) (by simp [F11]) (by simp) ?_;rintro (_|n4) ⟨v9,v10⟩ hF K451 hK451
    ·try dsimp only at hF
     rw [Aal.L4] at hF; cases hF
    try dsimp only at hF
    rw [Aal.L4] at hF;refine SW F11 [] [none] [] [(50,AV.bool (decide (v9<8)))] [] [] 1 ?_;refine AW.seq fun K453 hK453=>?_;by_cases h16 : v9<8
    ·replace hF:=AaQ h16 hF;have h16_:=h16;try simp at h16_
     have F12:=A3 F11 h16 h16_;refine CT (by simp [F12] <;> omega) ?_;refine AW.skip ?_;refine hK453 _ _ _ ?_;refine AW.seq fun K456 hK456=>?_;refine AW.block ?_;refine SR [] [none,none] fun _ _ g r=>?_;obtain ⟨h17,hF⟩:=AaS hF;obtain ⟨v11,h18,h19,h20,hF⟩:=Aah hF;have h20_:=Aa7 h20;try simp at h20_
     have h19_:=h19;try simp at h19_
     have F13:=A7 F12 h17 h18 h19 h20 h20_ h19_;refine TL F13 g r [] [(10,AV.int .u32 v11)] [] [] 1 ?_;refine RG [] [none,none,none,none,none,none,none,none,none,none,none,none,none,none,none] fun _ _ g r=>?_;obtain ⟨h21,hF⟩:=AaS hF;have h21_:=h21;try simp at h21_
     have F14:=A2 F13 h21;try simp [F14]
     and_intros <;> first | exact GK g | apply r | omega | (simp [maxLen,F14] <;> omega)
     refine hK456 _ _ _ ?_;refine WK [(8,AV.slc 1 0 1 ((v10++([IntKind.wrap .u8 (Int.fdiv v11 (2 ^ (24))),IntKind.wrap .u8 (Int.fdiv v11 (2 ^ (16))),IntKind.wrap .u8 (Int.fdiv v11 (2 ^ (8))),IntKind.wrap .u8 v11] : List Int)).length) false),(48,AV.agg (List.map (AV.int .u32) v7)),(49,Iz v9)] [(1,.grow (List.map (AV.int .u8) (v10++([IntKind.wrap .u8 (Int.fdiv v11 (2 ^ (24))),IntKind.wrap .u8 (Int.fdiv v11 (2 ^ (16))),IntKind.wrap .u8 (Int.fdiv v11 (2 ^ (8))),IntKind.wrap .u8 v11] : List Int))))] 2 (by simp [F14] <;> omega) (by simp [F14]) ?_;refine RG [] [none,none] fun _ _ g r=>?_;try simp [F14]
     and_intros <;> first | exact GK g | apply r | omega | (simp [maxLen,F14] <;> omega)
     refine hK451 _ _ _ ?_;refine RN h0 [(0,1)] [(8,AV.slc 0 0 1 ((v10++([IntKind.wrap .u8 (Int.fdiv v11 (2 ^ (24))),IntKind.wrap .u8 (Int.fdiv v11 (2 ^ (16))),IntKind.wrap .u8 (Int.fdiv v11 (2 ^ (8))),IntKind.wrap .u8 v11] : List Int)).length) false),(48,AV.agg (List.map (AV.int .u32) v7)),(49,Iz (IntKind.wrap .i64 (v9+1)))] [(0,.grow (List.map (AV.int .u8) (v10++([IntKind.wrap .u8 (Int.fdiv v11 (2 ^ (24))),IntKind.wrap .u8 (Int.fdiv v11 (2 ^ (16))),IntKind.wrap .u8 (Int.fdiv v11 (2 ^ (8))),IntKind.wrap .u8 v11] : List Int))))] 1 (by simp [F14] <;> omega) (by simp [F14]) ?_;exact NX (k':=n4) ((IntKind.wrap .i64 (v9+1),v10++([IntKind.wrap .u8 (Int.fdiv v11 (2 ^ (24))),IntKind.wrap .u8 (Int.fdiv v11 (2 ^ (16))),IntKind.wrap .u8 (Int.fdiv v11 (2 ^ (8))),IntKind.wrap .u8 v11] : List Int))) hF (by simp [F14]) (by simp [F14])
    ·replace hF:=AaR h16 hF;have h16_:=h16;try simp at h16_
     have F15:=A3 F11 h16 h16_;refine CF (by simp [F15] <;> omega) ?_;refine AW.exit ?_;try simp
     refine hK425 _ _ _ ?_;refine WK [(8,AV.slc 0 0 1 v10.length false)] [(0,.grow (List.map (AV.int .u8) v10))] 1 (by simp [F15]) (by simp [F15]) ?_;refine AW.frz 0 (o := .grow (List.map (AV.int .u8) v10)) (by simp [F15]) rfl [(8,Lb v10)] [] ⟨(.l (by simp) (by simp) (by simp) (by simp)),trivial⟩ trivial ?_;refine WK [(8,Lb v10)] [] 1 (by simp [F15]) (by simp [F15]) ?_;refine SW F15 [] [none,none,none] [8] [(2,AV.str (ofI v10))] [] [] 1 ?_;simp only [Option.some.injEq] at hF;subst hF;refine AW.ret (hQ _ _ _ ?_ (AaC ?_)).1
     ·simp [Try.f44,F15]
     ·simp [F15]
theorem Acb (k : Nat) (v0 : Int) (v1 : Int) (v2 : ByteArray) (v3 : Int) (v4 : Int) (v5 : Int) (v6 : Int) (v7 : Int) (v8 : (List Int)) (v9 : (List AaA)) (v10 : ByteArray) (v11 : Int) (v12 : ByteArray) (v13 : ByteArray) (hF : Abh k v0 v1 v2 v3 v4 v5 v6 v7 v8 v9 v10 v11 v12=some v13) :
 AbK Try.prog 50 [AV.agg [AV.int .i64 v0,AV.int .i64 v1,AV.str v2,AV.int .i64 v3,AV.int .i64 v4,AV.int .i64 v5,AV.int .i64 v6,AV.int .i64 v7,AV.lst false false (List.map (AV.int .i64) v8),Q0 v9,AV.str v10,AV.int .i64 v11,AV.str v12]] [] (AV.str v13) []:=by
 unfold Abh at hF;refine EN Try.func50 ?_;intro c0 w0 Q h0 hQ
 refine WK [(0,AV.agg [Iz v0,Iz v1,AV.str v2,Iz v3,Iz v4,Iz v5,Iz v6,Iz v7,Lz v8,Q0 v9,AV.str v10,Iz v11,AV.str v12])] [] 0 (by simp) (by simp) ?_;refine SW trivial [] [none,none] [0] [(1,AV.ptr 0 0)] [] [(0,.cells [Iz v0,Iz v1,AV.str v2,Iz v3,Iz v4,Iz v5,Iz v6,Iz v7,Lz v8,Q0 v9,AV.str v10,Iz v11,AV.str v12])] 1 ?_;refine SR [] [none,none,none,none] fun _ _ g r=>?_;try simp
 and_intros
 try any_goals first | omega | (simp [maxLen] <;> omega)
 obtain ⟨v14,h1,hF⟩:=AaF hF;refine AC (AdJ k _ _ _ _ _ _ _ _ _ _ _ _ _ _ h1) (.cons (.same (by simp)) .nil) ?_;try simp
 and_intros
 try any_goals first | omega | (simp [maxLen] <;> omega)
 obtain ⟨v15,h2,hF⟩:=AaF hF;refine AaT (Aiq k _ _ h2) (by simp) [] [1] [] rfl (.cons (Coe.l (o := .grow (List.map (AV.int .u8) v14)) (by simp) rfl (by simp) (by simp [Acd]) (by simp) (by simp)) .nil) (by simp) (by decide) (by simp) (by simp) (.inr ⟨by simp,by simp⟩) (by simp) (by simp) ?_;refine TL trivial g r [1] [(2,AV.str v15)] [0] [] 2 ?_;simp only [Option.some.injEq] at hF;subst hF;refine AW.ret (hQ _ _ _ ?_ (AaC ?_)).1
 ·simp [Try.f50]
 ·simp
end Go.TF
