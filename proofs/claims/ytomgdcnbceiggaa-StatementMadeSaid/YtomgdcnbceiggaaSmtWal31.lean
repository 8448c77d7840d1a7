import Derived.Test.YtomgdcnbceiggaaSmtWal29
import Derived.Test.YtomgdcnbceiggaaSmtWal30
set_option linter.unusedVariables false
set_option linter.unusedSimpArgs false
set_option maxRecDepth 100000
set_option maxHeartbeats 4000000
namespace Go.TF
open Go Go.Abs Go.Proofs Go.Proofs.YtomgdcnbceiggaaSmT
theorem Abj (k : Nat) (v0 v1 v2 : Int) (v3 : Bool) (hF : Abv k v0 v1 v2=some v3) :
 AbP Try.prog 70 [AV.int .i64 v0,AV.int .i64 v1,AV.int .i64 v2] [] (AV.bool v3) []:=by
 unfold Abv at hF;refine EN Try.func70 ?_;intro c0 w0 Q h0 hQ
 refine WJ [(0,Iz v0),(1,Iz v1),(2,Iz v2)] [] 0 (by simp) ?_;refine SW trivial [] [none] [] [] [] [] 0 ?_;refine SR [] [none,none,none,none,some (10,true),some (10,true),some (10,true),none,none] fun _ _ g r=>?_;rcases IFo hF with ⟨h1,hF⟩|⟨h1,hF⟩
 ·have h1_:=h1;try simp at h1_
  refine TL (A2 h1 h1_) g r [0,1,2] [(6,.bool (decide (v0≤v2)))] [] [] 0 ?_;cases hF;exact AW.ret (hQ _ _ _ (by simp [Try.f70,h1,h1_]) (AaE (by simp [h1,h1_]))).1
 ·have h1_:=h1;try simp at h1_
  refine TL (A2 h1 h1_) g r [0,1,2] [(6,.bool false)] [] [] 0 ?_;cases hF;exact AW.ret (hQ _ _ _ (by simp [Try.f70,h1,h1_]) (AaE (by simp [h1,h1_]))).1
theorem Ab2 (k : Nat) (v0 : Int) (v1 : Bool) (hF : AbX k v0=some v1) :
 AbP Try.prog 88 [AV.int .i64 v0] [] (AV.bool v1) []:=by
 unfold AbX at hF;refine EN Try.func88 ?_;intro c0 w0 Q h0 hQ
 refine WJ [(0,Iz v0)] [] 0 (by simp) ?_;refine SW trivial [] [none] [] [] [] [] 0 ?_;obtain ⟨v2,h1,hF⟩:=AaG hF;refine CL trivial [] N3 (Abj k _ _ _ _ h1) [0] [(2,.bool v2)] [] [] 0 ?_;cases hF;refine AW.ret (hQ _ _ _ ?_ (AaE ?_)).1
 ·simp [Try.f88]
 ·simp
abbrev Agl (v0 v1 : Int) (v2 : ByteArray) (v3 v4 v5 v6 v7 : Int) (v8 : (List Int)) (v9 : (List AaD)) (v10 : ByteArray) (v11 : Int) (v12 : ByteArray) : Aan := .cells [Iz v0,Iz v1,AV.str v2,Iz v3,Iz v4,Iz v5,Iz v6,Iz v7,Lz v8,Q0 v9,AV.str v10,Iz v11,AV.str v12]
theorem Aem (k : Nat) (v0 v1 : Int) (v2 : ByteArray) (v3 v4 v5 v6 v7 : Int) (v8 : (List Int)) (v9 : (List AaD)) (v10 : ByteArray) (v11 : Int) (v12 : ByteArray) (v13 : Bool) (hF : Ace k v0 v1 v2 v3 v4 v5 v6 v7 v8 v9 v10 v11 v12=some v13) :
 AbP Try.prog 89 [AV.agg [AV.int .i64 v0,AV.int .i64 v1,AV.str v2,AV.int .i64 v3,AV.int .i64 v4,AV.int .i64 v5,AV.int .i64 v6,AV.int .i64 v7,AV.lst false false (List.map (AV.int .i64) v8),Q0 v9,AV.str v10,AV.int .i64 v11,AV.str v12]] [] (AV.bool v13) []:=by
 unfold Ace at hF;refine EN Try.func89 ?_;intro c0 w0 Q h0 hQ
 refine WJ [(0,.agg [Iz v0,Iz v1,AV.str v2,Iz v3,Iz v4,Iz v5,Iz v6,Iz v7,Lz v8,Q0 v9,AV.str v10,Iz v11,AV.str v12])] [] 0 (by simp) ?_;refine SW trivial [] N2 [0] [(1,.ptr 0 0)] [] [(0,Agl v0 v1 v2 v3 v4 v5 v6 v7 v8 v9 v10 v11 v12)] 1 ?_;refine AW.seq fun K0 hK0=>?_;refine SW trivial [] N2 [] [(4,Iz v4)] [] [] 1 ?_;refine AW.block ?_;refine SW trivial [] N2 [] [(5,.bool (v4==1))] [] [] 1 ?_;rcases IFo hF with ⟨h1,hF⟩|⟨h1,hF⟩
 ·have h1q : v4=1:=h1;have h1_:=Abf h1q;have h1__:=Abe h1q;have F1:=A3 h1_ h1__ h1q;refine CT (by simp [F1] <;> omega) ?_;refine SR [] [none,none,none,none,some (10,true),some (10,true),some (10,true),some (10,true),some (10,true),none,none,some (17,true),some (17,true),some (17,true),none,none,some (22,true),some (22,true),some (22,true),some (22,true),some (22,true),none,none] fun _ _ g r=>?_;try simp [F1]
  and_intros
  try any_goals first | omega | (simp [maxLen,F1] <;> omega)
  obtain ⟨v14,h2,hF⟩:=AaG hF;refine AC (Abj k _ _ _ _ h2) (.cons (.same (by simp [F1])) (.cons (.same (by simp [F1])) (.cons (.same (by simp [F1])) .nil))) ?_;rcases IFo hF with ⟨h3,hF⟩|⟨h3,hF⟩
  ·have h3_:=h3;try simp at h3_
   rcases IFo hF with ⟨h4,hF⟩|⟨h4,hF⟩
   ·have h4_:=Aba h4;have h4__:=Abd h4;have F2:=A6 F1 h3 h3_ h4 h4_ h4__;try simp [F2]
    and_intros
    try any_goals first | omega | (simp [maxLen,F2] <;> omega)
    obtain ⟨v15,h5,hF⟩:=AaG hF;refine AC (Abj k _ _ _ _ h5) (.cons (.same (by simp [F2])) (.cons (.same (by simp [F2])) (.cons (.same (by simp [F2])) .nil))) ?_;rcases IFo hF with ⟨h6,hF⟩|⟨h6,hF⟩
    ·have h6_:=h6;try simp at h6_
     have F3:=A3 F2 h6 h6_;try simp [F3]
     and_intros
     try any_goals first | omega | (simp [maxLen,F3] <;> omega)
     obtain ⟨v16,h7,hF⟩:=AaG hF;refine AC (Abj k _ _ _ _ h7) (.cons (.same (by simp [F3])) (.cons (.same (by simp [F3])) (.cons (.same (by simp [F3])) .nil))) ?_;refine TL F3 g r [1,4,5] [(2,.bool v16)] [0] [] 1 ?_;cases hF;exact AW.ret (hQ _ _ _ (by simp [Try.f89,F3]) (AaE (by simp [F3]))).1
    ·have h6_:=h6;try simp at h6_
     have F4:=A3 F2 h6 h6_;refine TL F4 g r [1,4,5] [(2,.bool false)] [0] [] 1 ?_;cases hF;exact AW.ret (hQ _ _ _ (by simp [Try.f89,F4]) (AaE (by simp [F4]))).1
   ·have h4q : v5=v0:=Classical.not_not.1 h4;have h4_:=Abf h4q;have h4__:=Abe h4q;have F5:=A5 F1 h3 h3_ h4_ h4__;refine TL F5 g r [1,4,5] [(2,.bool false)] [0] [] 1 ?_;cases hF;exact AW.ret (hQ _ _ _ (by simp [Try.f89,F5]) (AaE (by simp [F5]))).1
  ·have h3_:=h3;try simp at h3_
   have F6:=A3 F1 h3 h3_;refine TL F6 g r [1,4,5] [(2,.bool false)] [0] [] 1 ?_;cases hF;exact AW.ret (hQ _ _ _ (by simp [Try.f89,F6]) (AaE (by simp [F6]))).1
 ·have h1_:=Aba h1;have h1__:=Abd h1;have F7:=A3 h1 h1_ h1__;refine CF (by simp [F7] <;> omega) ?_;refine SW F7 [] N2 [5] [(29,.bool (v4==2))] [] [] 1 ?_;rcases IFo hF with ⟨h8,hF⟩|⟨h8,hF⟩
  ·have h8q : v4=2:=h8;have h8_:=Abf h8q;have h8__:=Abe h8q;have F8:=A4 F7 h8_ h8__ h8q;refine CT (by simp [F8] <;> omega) ?_;refine SR [] [none,none,none,none,some (34,true),some (34,true),some (34,true),none,none,some (39,true),some (39,true),some (39,true),none,none] fun _ _ g r=>?_;try simp [F8]
   and_intros
   try any_goals first | omega | (simp [maxLen,F8] <;> omega)
   obtain ⟨v17,h9,hF⟩:=AaG hF;refine AC (Abj k _ _ _ _ h9) (.cons (.same (by simp [F8])) (.cons (.same (by simp [F8])) (.cons (.same (by simp [F8])) .nil))) ?_;rcases IFo hF with ⟨h10,hF⟩|⟨h10,hF⟩
   ·have h10_:=h10;try simp at h10_
    rcases IFo hF with ⟨h11,hF⟩|⟨h11,hF⟩
    ·have h11q : v6=0:=h11;have h11_:=Abf h11q;have h11__:=Abe h11q;have F9:=A6 F8 h10 h10_ h11_ h11__ h11q;refine TL F9 g r [1,4,29] [(2,.bool (v7==0))] [0] [] 1 ?_;cases hF;exact AW.ret (hQ _ _ _ (by simp [Try.f89,F9]) (AaE (by simp [F9]))).1
    ·have h11_:=Aba h11;have h11__:=Abd h11;have F10:=A6 F8 h10 h10_ h11 h11_ h11__;refine TL F10 g r [1,4,29] [(2,.bool false)] [0] [] 1 ?_;cases hF;exact AW.ret (hQ _ _ _ (by simp [Try.f89,F10]) (AaE (by simp [F10]))).1
   ·have h10_:=h10;try simp at h10_
    have F11:=A3 F8 h10 h10_;refine TL F11 g r [1,4,29] [(2,.bool false)] [0] [] 1 ?_;cases hF;exact AW.ret (hQ _ _ _ (by simp [Try.f89,F11]) (AaE (by simp [F11]))).1
  ·have h8_:=Aba h8;have h8__:=Abd h8;have F12:=A4 F7 h8 h8_ h8__;refine CF (by simp [F12] <;> omega) ?_;refine SW F12 [] N2 [4,29] [(44,.bool (v4==3))] [] [] 1 ?_;rcases IFo hF with ⟨h12,hF⟩|⟨h12,hF⟩
   ·have h12q : v4=3:=h12;have h12_:=Abf h12q;have h12__:=Abe h12q;refine CT (by simp [F12,h12_,h12__,h12q] <;> omega) ?_;refine SR [] [none,none,none,none,some (49,true),some (49,true),some (49,true),none,none,some (54,true),some (54,true),some (54,true),none,none] fun _ _ g r=>?_;rcases IFo hF with ⟨h13,hF⟩|⟨h13,hF⟩
    ·have h13q : v5=0:=h13;have h13_:=Abf h13q;have h13__:=Abe h13q;rcases IFo hF with ⟨h14,hF⟩|⟨h14,hF⟩
     ·have h14q : v6=0:=h14;have h14_:=Abf h14q;have h14__:=Abe h14q;have F13:=A9 F12 h12_ h12__ h12q h13_ h13__ h13q h14_ (A2 h14__ h14q);refine TL F13 g r [1,44] [(2,.bool (v7==0))] [0] [] 1 ?_;cases hF;exact AW.ret (hQ _ _ _ (by simp [Try.f89,F13]) (AaE (by simp [F13]))).1
     ·have h14_:=Aba h14;have h14__:=Abd h14;have F14:=A9 F12 h12_ h12__ h12q h13_ h13__ h13q h14 (A2 h14_ h14__);refine TL F14 g r [1,44] [(2,.bool false)] [0] [] 1 ?_;cases hF;exact AW.ret (hQ _ _ _ (by simp [Try.f89,F14]) (AaE (by simp [F14]))).1
    ·have h13_:=Aba h13;have h13__:=Abd h13;have F15:=A7 F12 h12_ h12__ h12q h13 h13_ h13__;refine TL F15 g r [1,44] [(2,.bool false)] [0] [] 1 ?_;cases hF;exact AW.ret (hQ _ _ _ (by simp [Try.f89,F15]) (AaE (by simp [F15]))).1
   ·have h12_:=Aba h12;have h12__:=Abd h12;have F16:=A4 F12 h12 h12_ h12__;refine CF (by simp [F16] <;> omega) ?_;refine AW.skip (hK0 _ _ _ ?_);refine SW F16 [] [none] [1,44] [(2,.bool true)] [0] [] 1 ?_;cases hF;exact AW.ret (hQ _ _ _ (by simp [Try.f89,F16]) (AaE (by simp [F16]))).1
theorem Afy (k : Nat) (v0 : Int) (v1 : Bool) (hF : Ac9 k v0=some v1) :
 AbP Try.prog 90 [AV.int .i64 v0] [] (AV.bool v1) []:=by
 unfold Ac9 at hF;refine EN Try.func90 ?_;intro c0 w0 Q h0 hQ
 refine WJ [(0,Iz v0)] [] 0 (by simp) ?_;refine SW trivial [] [none] [] [] [] [] 0 ?_;obtain ⟨v2,h1,hF⟩:=AaG hF;refine CL trivial [] N4 (Ab2 k _ _ h1) [0] [(2,.bool (!v2))] [] [] 0 ?_;cases hF;refine AW.ret (hQ _ _ _ ?_ (AaE ?_)).1
 ·simp [Try.f90]
 ·simp
theorem AdU (k : Nat) (v0 : (List Int)) (v1 : Int) (hF : AaZ k v0=some v1) :
 AbP Try.prog 105 [AV.lst false false (List.map (AV.int .i64) v0),AV.fn 90 []] [] (AV.int .i64 v1) []:=by
 unfold AaZ at hF;refine EN Try.func105 ?_;intro c0 w0 Q h0 hQ
 refine WJ [(0,Lz v0),(1,AV.fn 90 [])] [] 0 (by simp) ?_;refine SW trivial [] [none] [] [] [] [] 0 ?_;refine AW.seq fun K0 hK0=>?_;refine SW trivial [] N3 [] [(7,Iz (v0.length : Int)),(8,Iz 0)] [] [] 0 ?_;refine AW.block ?_;refine AW.loopF (α:=Int) (fun n v2=>AaZ.L1 k v0 n v2=some v1) (fun v2=>[(0,Lz v0),(1,AV.fn 90 []),(7,Iz (v0.length : Int)),(8,Iz v2)]) (fun v2=>[]) 0 k (0) hF (by simp) (by simp) (by simp) ?_;rintro (_|n1) v2 hF K1 hK1
 ·try dsimp only at hF
  rw [AaZ.L1] at hF; cases hF
 try dsimp only at hF
 rw [AaZ.L1] at hF;refine SW trivial [] [none] [] [(9,.bool (decide (v2<(v0.length : Int))))] [] [] 0 ?_;refine AW.seq fun K2 hK2=>?_;rcases IFo hF with ⟨h1,hF⟩|⟨h1,hF⟩
 ·have h1_:=h1;try simp at h1_
  refine CT (by simp [h1,h1_] <;> omega) ?_;refine AW.skip (hK2 _ _ _ ?_);refine AW.seq fun K3 hK3=>?_;refine AW.block ?_;refine SW (A2 h1 h1_) [] N2 [] [(5,Iz v2)] [] [] 0 ?_;refine SR [] N6 fun _ _ g r=>?_;obtain ⟨v3,h2,h3,h4,hF⟩:=Aai hF;have h4_:=AbA h4;try simp at h4_
  have h3_:=h3;try simp at h3_
  have F1:=A7 h1 h1_ h2 h3 h4 h4_ h3_;try simp [F1]
  and_intros
  try any_goals first | omega | (simp [maxLen,F1] <;> omega)
  obtain ⟨v4,h5,hF⟩:=AaG hF;refine AC (Afy k _ _ h5) (.cons (.same (by simp [F1])) .nil) ?_;refine TL F1 g r [] [(16,.bool v4)] [] [] 0 ?_;rcases IFo hF with ⟨h6,hF⟩|⟨h6,hF⟩
  ·have h6_:=h6;try simp at h6_
   have F2:=A3 F1 h6 h6_;refine CT (by simp [F2] <;> omega) ?_;refine SW F2 [] N2 [0,1,5,7,8,16] [(4,Iz v2)] [] [] 0 ?_;cases hF;exact AW.ret (hQ _ _ _ (by simp [Try.f105,F2]) (AaE (by simp [F2]))).1
  ·have h6_:=h6;try simp at h6_
   have F3:=A3 F1 h6 h6_;refine CF (by simp [F3] <;> omega) ?_;refine AW.skip (hK3 _ _ _ ?_);refine RG [] N2 fun _ _ g r=>?_;try simp [F3]
   and_intros <;> first | exact GK g | apply r | omega | (simp [maxLen,F3] <;> omega)
   refine hK1 _ _ _ ?_;exact NX (k':=n1) (IntKind.wrap .i64 (v2+1)) hF (by simp [F3]) (by simp [F3])
 ·have h1_:=h1;try simp at h1_
  refine CF (by simp [h1,h1_] <;> omega) ?_;refine AW.exit ?_;try simp
  refine hK0 _ _ _ ?_;refine SW (A2 h1 h1_) [] [none] [0,1,7,8] [(4,Iz (-1))] [] [] 0 ?_;cases hF;exact AW.ret (hQ _ _ _ (by simp [Try.f105,h1,h1_]) (AaE (by simp [h1,h1_]))).1
theorem AcD (k : Nat) (v0 : (List Int)) (v1 : Bool) (hF : Aa6 k v0=some v1) :
 AbP Try.prog 65 [AV.lst false false (List.map (AV.int .i64) v0),AV.fn 90 []] [] (AV.bool v1) []:=by
 unfold Aa6 at hF;refine EN Try.func65 ?_;intro c0 w0 Q h0 hQ
 refine WJ [(0,Lz v0),(1,AV.fn 90 [])] [] 0 (by simp) ?_;refine SW trivial [] [none] [] [] [] [] 0 ?_;obtain ⟨v2,h1,hF⟩:=AaG hF;refine CL trivial [] N5 (AdU k _ _ h1) [0,1] [(4,.bool (decide (0≤v2)))] [] [] 0 ?_;cases hF;refine AW.ret (hQ _ _ _ ?_ (AaE ?_)).1
 ·simp [Try.f65]
 ·simp
theorem Ab7 (k : Nat) (v0 : (List AaD)) (v1 : Bool) (hF : AaW k v0=some v1) :
 AbP Try.prog 91 [Q0 v0] [] (AV.bool v1) []:=by
 unfold AaW at hF;refine EN Try.func91 ?_;intro c0 w0 Q h0 hQ
 refine WJ [(0,Q0 v0)] [] 0 (by simp) ?_;refine SW trivial [] [none] [] [] [] [] 0 ?_;refine AW.seq fun K0 hK0=>?_;refine SW trivial [] N3 [] [(5,Q0 v0),(6,Iz (v0.length : Int)),(7,Iz 0)] [] [] 0 ?_;refine AW.block ?_;refine AW.loopF (α:=Int) (fun n v2=>AaW.L1 k v0 n v2=some v1) (fun v2=>[(0,Q0 v0),(5,Q0 v0),(6,Iz (v0.length : Int)),(7,Iz v2)]) (fun v2=>[]) 0 k (0) hF (by simp) (by simp) (by simp) ?_;rintro (_|n1) v2 hF K1 hK1
 ·try dsimp only at hF
  rw [AaW.L1] at hF; cases hF
 try dsimp only at hF
 rw [AaW.L1] at hF;refine SW trivial [] [none] [] [(8,.bool (decide (v2<(v0.length : Int))))] [] [] 0 ?_;refine AW.seq fun K2 hK2=>?_;rcases IFo hF with ⟨h1,hF⟩|⟨h1,hF⟩
 ·have h1_:=h1;try simp at h1_
  refine CT (by simp [h1,h1_] <;> omega) ?_;refine AW.skip (hK2 _ _ _ ?_);refine AW.seq fun K3 hK3=>?_;refine AW.block ?_;refine SR [] N6 fun _ _ g r=>?_;obtain ⟨v3,h2,h3,h4,hF⟩:=Aai hF;have h4_:=AbA h4;try simp at h4_
  have h3_:=h3;try simp at h3_
  have F1:=A7 h1 h1_ h2 h3 h4 h4_ h3_;refine TL F1 g r [] [(3,Iz v2),(4,.ptr 0 0)] [] [(0,.cells [Iz v3.Author,Iz v3.Height,AV.str v3.Digest])] 1 ?_;refine AW.midF (α:=Bool) (fun v4=>AaW.J2 k v2 (fun v2_=>AaW.L1 k v0 n1 v2_) v4=some v1) (fun v4=>[(0,Q0 v0),(5,Q0 v0),(6,Iz (v0.length : Int)),(7,Iz v2),(42,.bool v4)]) (fun v4=>[]) 0 (fun K4 hK4=>?_) ?_
  ·refine RG [] [none,none,none,none,none,some (16,false),some (16,false),some (16,false),some (19,true),some (19,true),some (19,true),some (19,true),some (19,true),some (19,true),some (19,true),some (19,true),some (19,true),some (16,false),none,none,some (31,false),some (31,false),some (31,false),some (31,false),none,none,some (37,false),some (37,false),some (37,false),some (37,false),none] fun _ _ g r=>?_;try simp [F1]
   and_intros
   try any_goals first | omega | (simp [maxLen,F1] <;> omega)
   obtain ⟨v5,h6,hF⟩:=AaG hF;refine AC (Abj k _ _ _ _ h6) (.cons (.same (by simp [F1])) (.cons (.same (by simp [F1])) (.cons (.same (by simp [F1])) .nil))) ?_;rcases IFo hF with ⟨h7,hF⟩|⟨h7,hF⟩
   ·have h7_:=h7;try simp at h7_
    have F2:=A3 F1 h7 h7_;try simp [F2]
    and_intros <;> first | exact GK g | apply r | omega | (simp [maxLen,F2] <;> omega)
    refine hK4 _ _ _ ?_;refine RN h0 [] [(0,Q0 v0),(5,Q0 v0),(6,Iz (v0.length : Int)),(7,Iz v2),(42,.bool true)] [] 0 (by simp [F2]) (by simp [F2]) ?_;exact JN (true) hF (by simp [F2]) (by simp [F2])
   ·have h7_:=h7;try simp at h7_
    rcases IFo hF with ⟨h8,hF⟩|⟨h8,hF⟩
    ·have h8_:=h8;try simp at h8_
     obtain ⟨v6,h9,h10,h11,hF⟩:=Aai hF;have h11_:=AbA h11;try simp at h11_
     have h10_:=h10;try simp at h10_
     rcases IFo hF with ⟨h12,hF⟩|⟨h12,hF⟩
     ·have h12_:=h12;try simp at h12_
      have F3:=A9 F1 h7 h7_ h8 h8_ h9 h10 h11 (A4 h11_ h10_ h12 h12_);try simp [F3]
      and_intros <;> first | exact GK g | apply r | omega | (simp [maxLen,F3] <;> omega)
      refine hK4 _ _ _ ?_;refine RN h0 [] [(0,Q0 v0),(5,Q0 v0),(6,Iz (v0.length : Int)),(7,Iz v2),(42,.bool true)] [] 0 (by simp [F3]) (by simp [F3]) ?_;exact JN (true) hF (by simp [F3]) (by simp [F3])
     ·have h12_:=h12;try simp at h12_
      have F4:=A9 F1 h7 h7_ h8 h8_ h9 h10 h11 (A4 h11_ h10_ h12 h12_);try simp [F4]
      and_intros
      try any_goals first | omega | (simp [maxLen,F4] <;> omega)
      obtain ⟨v7,h13,hF⟩:=AaG hF;refine AC (Abj k _ _ _ _ h13) (.cons (.same (by simp [F4])) (.cons (.same (by simp [F4])) (.cons (.same (by simp [F4])) .nil))) ?_;rcases IFo hF with ⟨h14,hF⟩|⟨h14,hF⟩
      ·have h14_:=h14;try simp at h14_
       have F5:=A3 F4 h14 h14_;try simp [F5]
       and_intros <;> first | exact GK g | apply r | omega | (simp [maxLen,F5] <;> omega)
       refine hK4 _ _ _ ?_;refine RN h0 [] [(0,Q0 v0),(5,Q0 v0),(6,Iz (v0.length : Int)),(7,Iz v2),(42,.bool true)] [] 0 (by simp [F5]) (by simp [F5]) ?_;exact JN (true) hF (by simp [F5]) (by simp [F5])
      ·have h14_:=h14;try simp at h14_
       have F6:=A3 F4 h14 h14_;try simp [F6]
       and_intros <;> first | exact GK g | apply r | omega | (simp [maxLen,F6] <;> omega)
       refine hK4 _ _ _ ?_;refine RN h0 [] [(0,Q0 v0),(5,Q0 v0),(6,Iz (v0.length : Int)),(7,Iz v2),(42,.bool ((v3.Digest.size : Int) !=32))] [] 0 (by simp [F6]) (by simp [F6]) ?_;exact JN (((v3.Digest.size : Int) !=32)) hF (by simp [F6]) (by simp [F6])
    ·have h8_:=h8;try simp at h8_
     have F7:=A5 F1 h7 h7_ h8 h8_;try simp [F7]
     and_intros
     try any_goals first | omega | (simp [maxLen,F7] <;> omega)
     obtain ⟨v8,h15,hF⟩:=AaG hF;refine AC (Abj k _ _ _ _ h15) (.cons (.same (by simp [F7])) (.cons (.same (by simp [F7])) (.cons (.same (by simp [F7])) .nil))) ?_;rcases IFo hF with ⟨h16,hF⟩|⟨h16,hF⟩
     ·have h16_:=h16;try simp at h16_
      have F8:=A3 F7 h16 h16_;try simp [F8]
      and_intros <;> first | exact GK g | apply r | omega | (simp [maxLen,F8] <;> omega)
      refine hK4 _ _ _ ?_;refine RN h0 [] [(0,Q0 v0),(5,Q0 v0),(6,Iz (v0.length : Int)),(7,Iz v2),(42,.bool true)] [] 0 (by simp [F8]) (by simp [F8]) ?_;exact JN (true) hF (by simp [F8]) (by simp [F8])
     ·have h16_:=h16;try simp at h16_
      have F9:=A3 F7 h16 h16_;try simp [F9]
      and_intros <;> first | exact GK g | apply r | omega | (simp [maxLen,F9] <;> omega)
      refine hK4 _ _ _ ?_;refine RN h0 [] [(0,Q0 v0),(5,Q0 v0),(6,Iz (v0.length : Int)),(7,Iz v2),(42,.bool ((v3.Digest.size : Int) !=32))] [] 0 (by simp [F9]) (by simp [F9]) ?_;exact JN (((v3.Digest.size : Int) !=32)) hF (by simp [F9]) (by simp [F9])
  ·rintro v4 hF
   try dsimp only at hF
   unfold AaW.J2 at hF;rcases IFo hF with ⟨h5,hF⟩|⟨h5,hF⟩
   ·have h5_:=h5;try simp at h5_
    have F10:=A3 F1 h5 h5_;refine CT (by simp [F10] <;> omega) ?_;refine SW F10 [] [none] [0,5,6,7,42] [(2,.bool false)] [] [] 0 ?_;cases hF;exact AW.ret (hQ _ _ _ (by simp [Try.f91,F10]) (AaE (by simp [F10]))).1
   ·have h5_:=h5;try simp at h5_
    have F11:=A3 F1 h5 h5_;refine CF (by simp [F11] <;> omega) ?_;refine AW.skip (hK3 _ _ _ ?_);refine RG [] N2 fun _ _ g r=>?_;try simp [F11]
    and_intros <;> first | exact GK g | apply r | omega | (simp [maxLen,F11] <;> omega)
    refine hK1 _ _ _ ?_;exact NX (k':=n1) (IntKind.wrap .i64 (v2+1)) hF (by simp [F11]) (by simp [F11])
 ·have h1_:=h1;try simp at h1_
  refine CF (by simp [h1,h1_] <;> omega) ?_;refine AW.exit ?_;try simp
  refine hK0 _ _ _ ?_;refine SW (A2 h1 h1_) [] [none] [0,5,6,7] [(2,.bool true)] [] [] 0 ?_;cases hF;exact AW.ret (hQ _ _ _ (by simp [Try.f91,h1,h1_]) (AaE (by simp [h1,h1_]))).1
abbrev Agm (v0 v1 : Int) (v2 : ByteArray) (v3 v4 v5 v6 v7 : Int) (v8 : (List Int)) (v9 : (List AaD)) (v10 : ByteArray) (v11 : Int) (v12 : ByteArray) : Aan := .cells [Iz v0,Iz v1,AV.str v2,Iz v3,Iz v4,Iz v5,Iz v6,Iz v7,Lz v8,Q0 v9,AV.str v10,Iz v11,AV.str v12]
theorem Acd (k : Nat) (v0 v1 : Int) (v2 : ByteArray) (v3 v4 v5 v6 v7 : Int) (v8 : (List Int)) (v9 : (List AaD)) (v10 : ByteArray) (v11 : Int) (v12 : ByteArray) (v13 : Int) (hF : AaQ k v0 v1 v2 v3 v4 v5 v6 v7 v8 v9 v10 v11 v12=some v13) :
 AbP Try.prog 52 [AV.agg [AV.int .i64 v0,AV.int .i64 v1,AV.str v2,AV.int .i64 v3,AV.int .i64 v4,AV.int .i64 v5,AV.int .i64 v6,AV.int .i64 v7,AV.lst false false (List.map (AV.int .i64) v8),Q0 v9,AV.str v10,AV.int .i64 v11,AV.str v12]] [] (AV.int .i64 v13) []:=by
 unfold AaQ at hF;refine EN Try.func52 ?_;intro c0 w0 Q h0 hQ
 refine WJ [(0,.agg [Iz v0,Iz v1,AV.str v2,Iz v3,Iz v4,Iz v5,Iz v6,Iz v7,Lz v8,Q0 v9,AV.str v10,Iz v11,AV.str v12])] [] 0 (by simp) ?_;refine SW trivial [] N2 [0] [(1,.ptr 0 0)] [] [(0,Agm v0 v1 v2 v3 v4 v5 v6 v7 v8 v9 v10 v11 v12)] 1 ?_;refine SW trivial [] N4 [] [(3,.bool (decide (v4≤3)))] [] [] 1 ?_;refine AW.midF (α:=Unit) (fun _=>AaQ.J1 k=some v13) (fun _=>[]) (fun _=>[]) 0 (fun K0 hK0=>?_) ?_
 ·refine AW.block ?_;obtain ⟨v14,h1,hF⟩:=AaG hF;refine CL trivial [] N5 (Abj k _ _ _ _ h1) [] [(7,.bool (!v14))] [] [] 1 ?_;rcases IFo hF with ⟨h2,hF⟩|⟨h2,hF⟩
  ·have h2_:=h2;try simp at h2_
   refine CT (by simp [h2,h2_] <;> omega) ?_;refine SW (A2 h2 h2_) [] [none] [1,3,7] [(2,Iz 4)] [0] [] 1 ?_;cases hF;exact AW.ret (hQ _ _ _ (by simp [Try.f52,h2,h2_]) (AaE (by simp [h2,h2_]))).1
  ·have h2_:=h2;try simp at h2_
   refine CF (by simp [h2,h2_] <;> omega) ?_;refine SR [] [none,none,none,none,none,some (17,true),some (17,true),some (17,true),some (17,true),none,none] fun _ _ g r=>?_;try simp [h2,h2_]
   and_intros
   try any_goals first | omega | (simp [h2,h2_,maxLen] <;> omega)
   obtain ⟨v15,h3,hF⟩:=AaG hF;refine AC (Abj k _ _ _ _ h3) (.cons (.same (by simp [h2,h2_])) (.cons (.same (by simp [h2,h2_])) (.cons (.same (by simp [h2,h2_])) .nil))) ?_;rcases IFo hF with ⟨h4,hF⟩|⟨h4,hF⟩
   ·have h4_:=h4;try simp at h4_
    have F1:=A4 h2 h2_ h4 h4_;try simp [F1]
    and_intros
    try any_goals first | omega | (simp [maxLen,F1] <;> omega)
    obtain ⟨v16,h5,hF⟩:=AaG hF;refine AC (Abj k _ _ _ _ h5) (.cons (.same (by simp [F1])) (.cons (.same (by simp [F1])) (.cons (.same (by simp [F1])) .nil))) ?_;refine TL F1 g r [7] [(12,.bool (!v16))] [] [] 1 ?_;rcases IFo hF with ⟨h6,hF⟩|⟨h6,hF⟩
    ·have h6_:=h6;try simp at h6_
     have F2:=A3 F1 h6 h6_;refine CT (by simp [F2] <;> omega) ?_;refine SW F2 [] [none] [1,3,12] [(2,Iz 5)] [0] [] 1 ?_;cases hF;exact AW.ret (hQ _ _ _ (by simp [Try.f52,F2]) (AaE (by simp [F2]))).1
    ·have h6_:=h6;try simp at h6_
     have F3:=A3 F1 h6 h6_;refine CF (by simp [F3] <;> omega) ?_;obtain ⟨v17,h7,hF⟩:=AaG hF;refine CL F3 [] N5 (Abj k _ _ _ _ h7) [12] [(23,.bool (!v17))] [] [] 1 ?_;rcases IFo hF with ⟨h8,hF⟩|⟨h8,hF⟩
     ·have h8_:=h8;try simp at h8_
      have F4:=A3 F3 h8 h8_;refine CT (by simp [F4] <;> omega) ?_;refine SW F4 [] [none] [1,3,23] [(2,Iz 9)] [0] [] 1 ?_;cases hF;exact AW.ret (hQ _ _ _ (by simp [Try.f52,F4]) (AaE (by simp [F4]))).1
     ·have h8_:=h8;try simp at h8_
      have F5:=A3 F3 h8 h8_;refine CF (by simp [F5] <;> omega) ?_;refine SR [] [none,none,none,none,none,some (33,false),some (33,false),some (33,false),some (33,false),none,none,some (39,false),some (39,false),some (39,false),some (39,false),none,none,some (45,false),some (45,false),some (45,false),some (45,false),none,none,some (51,false),some (51,false),some (51,false),none,none,some (56,false),some (56,false),some (56,false),none,none] fun _ _ g r=>?_;try simp [F5]
      and_intros
      try any_goals first | omega | (simp [maxLen,F5] <;> omega)
      obtain ⟨v18,h9,hF⟩:=AaG hF;refine AC (Abj k _ _ _ _ h9) (.cons (.same (by simp [F5])) (.cons (.same (by simp [F5])) (.cons (.same (by simp [F5])) .nil))) ?_;rcases IFo hF with ⟨h10,hF⟩|⟨h10,hF⟩
      ·have h10_:=h10;try simp at h10_
       have F6:=A3 F5 h10 h10_;refine TL F6 g r [23] [(28,.bool true)] [] [] 1 ?_;refine CT (by simp [F6]) ?_;refine SW F6 [] [none] [1,3,28] [(2,Iz 2)] [0] [] 1 ?_;cases hF;exact AW.ret (hQ _ _ _ (by simp [Try.f52,F6]) (AaE (by simp [F6]))).1
      ·have h10_:=h10;try simp at h10_
       have F7:=A3 F5 h10 h10_;try simp [F7]
       and_intros
       try any_goals first | omega | (simp [maxLen,F7] <;> omega)
       obtain ⟨v19,h11,hF⟩:=AaG hF;refine AC (Ab2 k _ _ h11) (.cons (.same (by simp [F7])) .nil) ?_;rcases IFo hF with ⟨h12,hF⟩|⟨h12,hF⟩
       ·have h12_:=h12;try simp at h12_
        have F8:=A3 F7 h12 h12_;refine TL F8 g r [23] [(28,.bool true)] [] [] 1 ?_;refine CT (by simp [F8]) ?_;refine SW F8 [] [none] [1,3,28] [(2,Iz 2)] [0] [] 1 ?_;cases hF;exact AW.ret (hQ _ _ _ (by simp [Try.f52,F8]) (AaE (by simp [F8]))).1
       ·have h12_:=h12;try simp at h12_
        have F9:=A3 F7 h12 h12_;try simp [F9]
        and_intros
        try any_goals first | omega | (simp [maxLen,F9] <;> omega)
        obtain ⟨v20,h13,hF⟩:=AaG hF;refine AC (Ab2 k _ _ h13) (.cons (.same (by simp [F9])) .nil) ?_;rcases IFo hF with ⟨h14,hF⟩|⟨h14,hF⟩
        ·have h14_:=h14;try simp at h14_
         have F10:=A3 F9 h14 h14_;refine TL F10 g r [23] [(28,.bool true)] [] [] 1 ?_;refine CT (by simp [F10]) ?_;refine SW F10 [] [none] [1,3,28] [(2,Iz 2)] [0] [] 1 ?_;cases hF;exact AW.ret (hQ _ _ _ (by simp [Try.f52,F10]) (AaE (by simp [F10]))).1
        ·have h14_:=h14;try simp at h14_
         have F11:=A3 F9 h14 h14_;try simp [F11]
         and_intros
         try any_goals first | omega | (simp [maxLen,F11] <;> omega)
         obtain ⟨v21,h15,hF⟩:=AaG hF;refine AC (Ab2 k _ _ h15) (.cons (.same (by simp [F11])) .nil) ?_;rcases IFo hF with ⟨h16,hF⟩|⟨h16,hF⟩
         ·have h16_:=h16;try simp at h16_
          have F12:=A3 F11 h16 h16_;refine TL F12 g r [23] [(28,.bool true)] [] [] 1 ?_;refine CT (by simp [F12]) ?_;refine SW F12 [] [none] [1,3,28] [(2,Iz 2)] [0] [] 1 ?_;cases hF;exact AW.ret (hQ _ _ _ (by simp [Try.f52,F12]) (AaE (by simp [F12]))).1
         ·have h16_:=h16;try simp at h16_
          have F13:=A3 F11 h16 h16_;try simp [F13]
          and_intros
          try any_goals first | omega | (simp [maxLen,F13] <;> omega)
          obtain ⟨v22,h17,hF⟩:=AaG hF;refine AC (Aem k _ _ _ _ _ _ _ _ _ _ _ _ _ _ h17) (.cons (.same (by simp [F13])) .nil) ?_;rcases IFo hF with ⟨h18,hF⟩|⟨h18,hF⟩
          ·have h18_:=h18;try simp at h18_
           have F14:=A3 F13 h18 h18_;refine TL F14 g r [23] [(28,.bool true)] [] [] 1 ?_;refine CT (by simp [F14]) ?_;refine SW F14 [] [none] [1,3,28] [(2,Iz 2)] [0] [] 1 ?_;cases hF;exact AW.ret (hQ _ _ _ (by simp [Try.f52,F14]) (AaE (by simp [F14]))).1
          ·have h18_:=h18;try simp at h18_
           have F15:=A3 F13 h18 h18_;try simp [F15]
           and_intros
           try any_goals first | omega | (simp [maxLen,F15] <;> omega)
           obtain ⟨v23,h19,hF⟩:=AaG hF;refine AC (AcD k _ _ h19) (.cons (.same (by simp [F15])) (.cons (.same (by simp [F15])) .nil)) ?_;refine TL F15 g r [23] [(28,.bool v23)] [] [] 1 ?_;rcases IFo hF with ⟨h20,hF⟩|⟨h20,hF⟩
           ·have h20_:=h20;try simp at h20_
            have F16:=A3 F15 h20 h20_;refine CT (by simp [F16] <;> omega) ?_;refine SW F16 [] [none] [1,3,28] [(2,Iz 2)] [0] [] 1 ?_;cases hF;exact AW.ret (hQ _ _ _ (by simp [Try.f52,F16]) (AaE (by simp [F16]))).1
           ·have h20_:=h20;try simp at h20_
            have F17:=A3 F15 h20 h20_;refine CF (by simp [F17] <;> omega) ?_;refine SR [] [none,none,none,none,none,some (66,false),some (66,false),some (66,false),some (66,false),none,none,some (72,false),some (72,false),some (72,false),some (72,false),none,none] fun _ _ g r=>?_;rcases IFo hF with ⟨h21,hF⟩|⟨h21,hF⟩
            ·have h21_:=h21;try simp at h21_
             have F18:=A3 F17 h21 h21_;refine TL F18 g r [28] [(61,.bool true)] [] [] 1 ?_;refine CT (by simp [F18]) ?_;refine SW F18 [] [none] [1,3,61] [(2,Iz 3)] [0] [] 1 ?_;cases hF;exact AW.ret (hQ _ _ _ (by simp [Try.f52,F18]) (AaE (by simp [F18]))).1
            ·have h21_:=h21;try simp at h21_
             rcases IFo hF with ⟨h22,hF⟩|⟨h22,hF⟩
             ·have h22_:=h22;try simp at h22_
              have F19:=A5 F17 h21 h21_ h22 h22_;refine TL F19 g r [28] [(61,.bool true)] [] [] 1 ?_;refine CT (by simp [F19]) ?_;refine SW F19 [] [none] [1,3,61] [(2,Iz 3)] [0] [] 1 ?_;cases hF;exact AW.ret (hQ _ _ _ (by simp [Try.f52,F19]) (AaE (by simp [F19]))).1
             ·have h22_:=h22;try simp at h22_
              have F20:=A5 F17 h21 h21_ h22 h22_;refine TL F20 g r [28] [(61,.bool (decide (4096<(v10.size : Int))))] [] [] 1 ?_;rcases IFo hF with ⟨h23,hF⟩|⟨h23,hF⟩
              ·have h23_:=h23;try simp at h23_
               have F21:=A3 F20 h23 h23_;refine CT (by simp [F21] <;> omega) ?_;refine SW F21 [] [none] [1,3,61] [(2,Iz 3)] [0] [] 1 ?_;cases hF;exact AW.ret (hQ _ _ _ (by simp [Try.f52,F21]) (AaE (by simp [F21]))).1
              ·have h23_:=h23;try simp at h23_
               have F22:=A3 F20 h23 h23_;refine CF (by simp [F22] <;> omega) ?_;refine AW.midF (α:=Bool) (fun v24=>AaQ.J2 k v24=some v13) (fun v24=>[(78,.bool v24)]) (fun v24=>[]) 0 (fun K1 hK1=>?_) ?_
               ·refine RG [] [none,none,none,none,some (82,true),some (82,true),some (82,true),none,none,some (87,false),some (87,false),some (87,false),some (87,false),some (91,true),some (91,true),some (91,true),some (91,true),some (87,false),none,none,some (98,false),some (98,false),some (98,false),some (98,false),none,none,some (104,false),some (104,false),some (106,true),some (106,true),some (106,true),some (106,true),some (106,true),some (106,true),some (106,true),some (106,true),some (106,true),some (106,true),some (106,true),some (106,true),some (104,false),none,none] fun _ _ g r=>?_;rcases IFo hF with ⟨h25,hF⟩|⟨h25,hF⟩
                ·have h25q : v1=0:=h25;have h25_:=Abf h25q;have h25__:=Abe h25q;rcases IFo hF with ⟨h26,hF⟩|⟨h26,hF⟩
                 ·have h26_:=h26;try simp at h26_
                  have F23:=A6 F22 h25_ h25__ h25q h26 h26_;try simp [F23]
                  and_intros <;> first | exact GK g | apply r | omega | (simp [maxLen,F23] <;> omega)
                  refine hK1 _ _ _ ?_;refine RN h0 [] [(78,.bool true)] [] 0 (by simp [F23]) (by simp [F23]) ?_;exact JN (true) hF (by simp [F23]) (by simp [F23])
                 ·have h26_:=h26;try simp at h26_
                  rcases IFo hF with ⟨h27,hF⟩|⟨h27,hF⟩
                  ·have h27_:=h27;try simp at h27_
                   cases hF
                  ·have h27_:=h27;try simp at h27_
                   have F24:=A8 F22 h25_ h25__ h25q h26 h26_ h27 h27_;try simp [F24]
                   and_intros
                   try any_goals first | omega | (simp [maxLen,F24] <;> omega)
                   obtain ⟨v25,h28,hF⟩:=AaG hF;refine AC (Ab7 k _ _ h28) (.cons (.same (by simp [F24])) .nil) ?_;rcases IFo hF with ⟨h29,hF⟩|⟨h29,hF⟩
                   ·have h29_:=h29;try simp at h29_
                    have F25:=A3 F24 h29 h29_;try simp [F25]
                    and_intros <;> first | exact GK g | apply r | omega | (simp [maxLen,F25] <;> omega)
                    refine hK1 _ _ _ ?_;refine RN h0 [] [(78,.bool true)] [] 0 (by simp [F25]) (by simp [F25]) ?_;exact JN (true) hF (by simp [F25]) (by simp [F25])
                   ·have h29_:=h29;try simp at h29_
                    rcases IFo hF with ⟨h30,hF⟩|⟨h30,hF⟩
                    ·have h30_:=h30;try simp at h30_
                     have F26:=A5 F24 h29 h29_ h30 h30_;try simp [F26]
                     and_intros <;> first | exact GK g | apply r | omega | (simp [maxLen,F26] <;> omega)
                     refine hK1 _ _ _ ?_;refine RN h0 [] [(78,.bool (decide (0<IntKind.wrap .i64 (IntKind.wrap .i64 ((v8.length : Int)+(v9.length : Int))+(v10.size : Int)))))] [] 0 (by simp [F26]) (by simp [F26]) ?_;exact JN ((decide (0<IntKind.wrap .i64 (IntKind.wrap .i64 ((v8.length : Int)+(v9.length : Int))+(v10.size : Int))))) hF (by simp [F26]) (by simp [F26])
                    ·have h30_:=h30;try simp at h30_
                     have F27:=A5 F24 h29 h29_ h30 h30_;try simp [F27]
                     and_intros <;> first | exact GK g | apply r | omega | (simp [maxLen,F27] <;> omega)
                     refine hK1 _ _ _ ?_;refine RN h0 [] [(78,.bool false)] [] 0 (by simp [F27]) (by simp [F27]) ?_;exact JN (false) hF (by simp [F27]) (by simp [F27])
                ·have h25_:=Aba h25;have h25__:=Abd h25;rcases IFo hF with ⟨h31,hF⟩|⟨h31,hF⟩
                 ·have h31_:=h31;try simp at h31_
                  rcases IFo hF with ⟨h32,hF⟩|⟨h32,hF⟩
                  ·have h32_:=Aba h32;have h32__:=Abd h32;have F28:=A9 F22 h25 h25_ h25__ h31 h31_ h32 h32_ h32__;try simp [F28]
                   and_intros <;> first | exact GK g | apply r | omega | (simp [maxLen,F28] <;> omega)
                   refine hK1 _ _ _ ?_;refine RN h0 [] [(78,.bool true)] [] 0 (by simp [F28]) (by simp [F28]) ?_;exact JN (true) hF (by simp [F28]) (by simp [F28])
                  ·have h32q : (v2.size : Int)=32:=Classical.not_not.1 h32;have h32_:=Abf h32q;have h32__:=Abe h32q;have F29:=A9 F22 h25 h25_ h25__ h31 h31_ h32_ h32__ h32q;try simp [F29]
                   and_intros
                   try any_goals first | omega | (simp [maxLen,F29] <;> omega)
                   obtain ⟨v26,h33,hF⟩:=AaG hF;refine AC (Ab7 k _ _ h33) (.cons (.same (by simp [F29])) .nil) ?_;rcases IFo hF with ⟨h34,hF⟩|⟨h34,hF⟩
                   ·have h34_:=h34;try simp at h34_
                    have F30:=A3 F29 h34 h34_;try simp [F30]
                    and_intros <;> first | exact GK g | apply r | omega | (simp [maxLen,F30] <;> omega)
                    refine hK1 _ _ _ ?_;refine RN h0 [] [(78,.bool true)] [] 0 (by simp [F30]) (by simp [F30]) ?_;exact JN (true) hF (by simp [F30]) (by simp [F30])
                   ·have h34_:=h34;try simp at h34_
                    rcases IFo hF with ⟨h35,hF⟩|⟨h35,hF⟩
                    ·have h35_:=h35;try simp at h35_
                     have F31:=A5 F29 h34 h34_ h35 h35_;try simp [F31]
                     and_intros <;> first | exact GK g | apply r | omega | (simp [maxLen,F31] <;> omega)
                     refine hK1 _ _ _ ?_;refine RN h0 [] [(78,.bool (decide (0<IntKind.wrap .i64 (IntKind.wrap .i64 ((v8.length : Int)+(v9.length : Int))+(v10.size : Int)))))] [] 0 (by simp [F31]) (by simp [F31]) ?_;exact JN ((decide (0<IntKind.wrap .i64 (IntKind.wrap .i64 ((v8.length : Int)+(v9.length : Int))+(v10.size : Int))))) hF (by simp [F31]) (by simp [F31])
                    ·have h35_:=h35;try simp at h35_
                     have F32:=A5 F29 h34 h34_ h35 h35_;try simp [F32]
                     and_intros <;> first | exact GK g | apply r | omega | (simp [maxLen,F32] <;> omega)
                     refine hK1 _ _ _ ?_;refine RN h0 [] [(78,.bool false)] [] 0 (by simp [F32]) (by simp [F32]) ?_;exact JN (false) hF (by simp [F32]) (by simp [F32])
                 ·have h31_:=h31;try simp at h31_
                  have F33:=A6 F22 h25 h25_ h25__ h31 h31_;try simp [F33]
                  and_intros
                  try any_goals first | omega | (simp [maxLen,F33] <;> omega)
                  obtain ⟨v27,h36,hF⟩:=AaG hF;refine AC (Ab7 k _ _ h36) (.cons (.same (by simp [F33])) .nil) ?_;rcases IFo hF with ⟨h37,hF⟩|⟨h37,hF⟩
                  ·have h37_:=h37;try simp at h37_
                   have F34:=A3 F33 h37 h37_;try simp [F34]
                   and_intros <;> first | exact GK g | apply r | omega | (simp [maxLen,F34] <;> omega)
                   refine hK1 _ _ _ ?_;refine RN h0 [] [(78,.bool true)] [] 0 (by simp [F34]) (by simp [F34]) ?_;exact JN (true) hF (by simp [F34]) (by simp [F34])
                  ·have h37_:=h37;try simp at h37_
                   rcases IFo hF with ⟨h38,hF⟩|⟨h38,hF⟩
                   ·have h38_:=h38;try simp at h38_
                    have F35:=A5 F33 h37 h37_ h38 h38_;try simp [F35]
                    and_intros <;> first | exact GK g | apply r | omega | (simp [maxLen,F35] <;> omega)
                    refine hK1 _ _ _ ?_;refine RN h0 [] [(78,.bool (decide (0<IntKind.wrap .i64 (IntKind.wrap .i64 ((v8.length : Int)+(v9.length : Int))+(v10.size : Int)))))] [] 0 (by simp [F35]) (by simp [F35]) ?_;exact JN ((decide (0<IntKind.wrap .i64 (IntKind.wrap .i64 ((v8.length : Int)+(v9.length : Int))+(v10.size : Int))))) hF (by simp [F35]) (by simp [F35])
                   ·have h38_:=h38;try simp at h38_
                    have F36:=A5 F33 h37 h37_ h38 h38_;try simp [F36]
                    and_intros <;> first | exact GK g | apply r | omega | (simp [maxLen,F36] <;> omega)
                    refine hK1 _ _ _ ?_;refine RN h0 [] [(78,.bool false)] [] 0 (by simp [F36]) (by simp [F36]) ?_;exact JN (false) hF (by simp [F36]) (by simp [F36])
               ·rintro v24 hF
                try dsimp only at hF
                unfold AaQ.J2 at hF;rcases IFo hF with ⟨h24,hF⟩|⟨h24,hF⟩
                ·have h24_:=h24;try simp at h24_
                 have F37:=A3 F22 h24 h24_;refine CT (by simp [F37] <;> omega) ?_;refine SW F37 [] [none] [78] [(2,Iz 1)] [] [] 0 ?_;cases hF;exact AW.ret (hQ _ _ _ (by simp [Try.f52,F37]) (AaE (by simp [F37]))).1
                ·have h24_:=h24;try simp at h24_
                 have F38:=A3 F22 h24 h24_;refine CF (by simp [F38] <;> omega) ?_;refine AW.skip (hK0 _ _ _ ?_);exact JN (()) hF (by simp [F38]) (by simp [F38])
   ·have h4_:=h4;try simp at h4_
    have F39:=A4 h2 h2_ h4 h4_;refine TL F39 g r [7] [(12,.bool false)] [] [] 1 ?_;refine CF (by simp [F39]) ?_;obtain ⟨v28,h39,hF⟩:=AaG hF;refine CL F39 [] N5 (Abj k _ _ _ _ h39) [12] [(23,.bool (!v28))] [] [] 1 ?_;rcases IFo hF with ⟨h40,hF⟩|⟨h40,hF⟩
    ·have h40_:=h40;try simp at h40_
     have F40:=A3 F39 h40 h40_;refine CT (by simp [F40] <;> omega) ?_;refine SW F40 [] [none] [1,3,23] [(2,Iz 9)] [0] [] 1 ?_;cases hF;exact AW.ret (hQ _ _ _ (by simp [Try.f52,F40]) (AaE (by simp [F40]))).1
    ·have h40_:=h40;try simp at h40_
     have F41:=A3 F39 h40 h40_;refine CF (by simp [F41] <;> omega) ?_;refine SR [] [none,none,none,none,none,some (33,false),some (33,false),some (33,false),some (33,false),none,none,some (39,false),some (39,false),some (39,false),some (39,false),none,none,some (45,false),some (45,false),some (45,false),some (45,false),none,none,some (51,false),some (51,false),some (51,false),none,none,some (56,false),some (56,false),some (56,false),none,none] fun _ _ g r=>?_;try simp [F41]
     and_intros
     try any_goals first | omega | (simp [maxLen,F41] <;> omega)
     obtain ⟨v29,h41,hF⟩:=AaG hF;refine AC (Abj k _ _ _ _ h41) (.cons (.same (by simp [F41])) (.cons (.same (by simp [F41])) (.cons (.same (by simp [F41])) .nil))) ?_;rcases IFo hF with ⟨h42,hF⟩|⟨h42,hF⟩
     ·have h42_:=h42;try simp at h42_
      have F42:=A3 F41 h42 h42_;refine TL F42 g r [23] [(28,.bool true)] [] [] 1 ?_;refine CT (by simp [F42]) ?_;refine SW F42 [] [none] [1,3,28] [(2,Iz 2)] [0] [] 1 ?_;cases hF;exact AW.ret (hQ _ _ _ (by simp [Try.f52,F42]) (AaE (by simp [F42]))).1
     ·have h42_:=h42;try simp at h42_
      have F43:=A3 F41 h42 h42_;try simp [F43]
      and_intros
      try any_goals first | omega | (simp [maxLen,F43] <;> omega)
      obtain ⟨v30,h43,hF⟩:=AaG hF;refine AC (Ab2 k _ _ h43) (.cons (.same (by simp [F43])) .nil) ?_;rcases IFo hF with ⟨h44,hF⟩|⟨h44,hF⟩
      ·have h44_:=h44;try simp at h44_
       have F44:=A3 F43 h44 h44_;refine TL F44 g r [23] [(28,.bool true)] [] [] 1 ?_;refine CT (by simp [F44]) ?_;refine SW F44 [] [none] [1,3,28] [(2,Iz 2)] [0] [] 1 ?_;cases hF;exact AW.ret (hQ _ _ _ (by simp [Try.f52,F44]) (AaE (by simp [F44]))).1
      ·have h44_:=h44;try simp at h44_
       have F45:=A3 F43 h44 h44_;try simp [F45]
       and_intros
       try any_goals first | omega | (simp [maxLen,F45] <;> omega)
       obtain ⟨v31,h45,hF⟩:=AaG hF;refine AC (Ab2 k _ _ h45) (.cons (.same (by simp [F45])) .nil) ?_;rcases IFo hF with ⟨h46,hF⟩|⟨h46,hF⟩
       ·have h46_:=h46;try simp at h46_
        have F46:=A3 F45 h46 h46_;refine TL F46 g r [23] [(28,.bool true)] [] [] 1 ?_;refine CT (by simp [F46]) ?_;refine SW F46 [] [none] [1,3,28] [(2,Iz 2)] [0] [] 1 ?_;cases hF;exact AW.ret (hQ _ _ _ (by simp [Try.f52,F46]) (AaE (by simp [F46]))).1
       ·have h46_:=h46;try simp at h46_
        have F47:=A3 F45 h46 h46_;try simp [F47]
        and_intros
        try any_goals first | omega | (simp [maxLen,F47] <;> omega)
        obtain ⟨v32,h47,hF⟩:=AaG hF;refine AC (Ab2 k _ _ h47) (.cons (.same (by simp [F47])) .nil) ?_;rcases IFo hF with ⟨h48,hF⟩|⟨h48,hF⟩
        ·have h48_:=h48;try simp at h48_
         have F48:=A3 F47 h48 h48_;refine TL F48 g r [23] [(28,.bool true)] [] [] 1 ?_;refine CT (by simp [F48]) ?_;refine SW F48 [] [none] [1,3,28] [(2,Iz 2)] [0] [] 1 ?_;cases hF;exact AW.ret (hQ _ _ _ (by simp [Try.f52,F48]) (AaE (by simp [F48]))).1
        ·have h48_:=h48;try simp at h48_
         have F49:=A3 F47 h48 h48_;try simp [F49]
         and_intros
         try any_goals first | omega | (simp [maxLen,F49] <;> omega)
         obtain ⟨v33,h49,hF⟩:=AaG hF;refine AC (Aem k _ _ _ _ _ _ _ _ _ _ _ _ _ _ h49) (.cons (.same (by simp [F49])) .nil) ?_;rcases IFo hF with ⟨h50,hF⟩|⟨h50,hF⟩
         ·have h50_:=h50;try simp at h50_
          have F50:=A3 F49 h50 h50_;refine TL F50 g r [23] [(28,.bool true)] [] [] 1 ?_;refine CT (by simp [F50]) ?_;refine SW F50 [] [none] [1,3,28] [(2,Iz 2)] [0] [] 1 ?_;cases hF;exact AW.ret (hQ _ _ _ (by simp [Try.f52,F50]) (AaE (by simp [F50]))).1
         ·have h50_:=h50;try simp at h50_
          have F51:=A3 F49 h50 h50_;try simp [F51]
          and_intros
          try any_goals first | omega | (simp [maxLen,F51] <;> omega)
          obtain ⟨v34,h51,hF⟩:=AaG hF;refine AC (AcD k _ _ h51) (.cons (.same (by simp [F51])) (.cons (.same (by simp [F51])) .nil)) ?_;refine TL F51 g r [23] [(28,.bool v34)] [] [] 1 ?_;rcases IFo hF with ⟨h52,hF⟩|⟨h52,hF⟩
          ·have h52_:=h52;try simp at h52_
           have F52:=A3 F51 h52 h52_;refine CT (by simp [F52] <;> omega) ?_;refine SW F52 [] [none] [1,3,28] [(2,Iz 2)] [0] [] 1 ?_;cases hF;exact AW.ret (hQ _ _ _ (by simp [Try.f52,F52]) (AaE (by simp [F52]))).1
          ·have h52_:=h52;try simp at h52_
           have F53:=A3 F51 h52 h52_;refine CF (by simp [F53] <;> omega) ?_;refine SR [] [none,none,none,none,none,some (66,false),some (66,false),some (66,false),some (66,false),none,none,some (72,false),some (72,false),some (72,false),some (72,false),none,none] fun _ _ g r=>?_;rcases IFo hF with ⟨h53,hF⟩|⟨h53,hF⟩
           ·have h53_:=h53;try simp at h53_
            have F54:=A3 F53 h53 h53_;refine TL F54 g r [28] [(61,.bool true)] [] [] 1 ?_;refine CT (by simp [F54]) ?_;refine SW F54 [] [none] [1,3,61] [(2,Iz 3)] [0] [] 1 ?_;cases hF;exact AW.ret (hQ _ _ _ (by simp [Try.f52,F54]) (AaE (by simp [F54]))).1
           ·have h53_:=h53;try simp at h53_
            rcases IFo hF with ⟨h54,hF⟩|⟨h54,hF⟩
            ·have h54_:=h54;try simp at h54_
             have F55:=A5 F53 h53 h53_ h54 h54_;refine TL F55 g r [28] [(61,.bool true)] [] [] 1 ?_;refine CT (by simp [F55]) ?_;refine SW F55 [] [none] [1,3,61] [(2,Iz 3)] [0] [] 1 ?_;cases hF;exact AW.ret (hQ _ _ _ (by simp [Try.f52,F55]) (AaE (by simp [F55]))).1
            ·have h54_:=h54;try simp at h54_
             have F56:=A5 F53 h53 h53_ h54 h54_;refine TL F56 g r [28] [(61,.bool (decide (4096<(v10.size : Int))))] [] [] 1 ?_;rcases IFo hF with ⟨h55,hF⟩|⟨h55,hF⟩
             ·have h55_:=h55;try simp at h55_
              have F57:=A3 F56 h55 h55_;refine CT (by simp [F57] <;> omega) ?_;refine SW F57 [] [none] [1,3,61] [(2,Iz 3)] [0] [] 1 ?_;cases hF;exact AW.ret (hQ _ _ _ (by simp [Try.f52,F57]) (AaE (by simp [F57]))).1
             ·have h55_:=h55;try simp at h55_
              have F58:=A3 F56 h55 h55_;refine CF (by simp [F58] <;> omega) ?_;refine AW.midF (α:=Bool) (fun v35=>AaQ.J3 k v35=some v13) (fun v35=>[(78,.bool v35)]) (fun v35=>[]) 0 (fun K2 hK2=>?_) ?_
              ·refine RG [] [none,none,none,none,some (82,true),some (82,true),some (82,true),none,none,some (87,false),some (87,false),some (87,false),some (87,false),some (91,true),some (91,true),some (91,true),some (91,true),some (87,false),none,none,some (98,false),some (98,false),some (98,false),some (98,false),none,none,some (104,false),some (104,false),some (106,true),some (106,true),some (106,true),some (106,true),some (106,true),some (106,true),some (106,true),some (106,true),some (106,true),some (106,true),some (106,true),some (106,true),some (104,false),none,none] fun _ _ g r=>?_;rcases IFo hF with ⟨h57,hF⟩|⟨h57,hF⟩
               ·have h57q : v1=0:=h57;have h57_:=Abf h57q;have h57__:=Abe h57q;rcases IFo hF with ⟨h58,hF⟩|⟨h58,hF⟩
                ·have h58_:=h58;try simp at h58_
                 have F59:=A6 F58 h57_ h57__ h57q h58 h58_;try simp [F59]
                 and_intros <;> first | exact GK g | apply r | omega | (simp [maxLen,F59] <;> omega)
                 refine hK2 _ _ _ ?_;refine RN h0 [] [(78,.bool true)] [] 0 (by simp [F59]) (by simp [F59]) ?_;exact JN (true) hF (by simp [F59]) (by simp [F59])
                ·have h58_:=h58;try simp at h58_
                 rcases IFo hF with ⟨h59,hF⟩|⟨h59,hF⟩
                 ·have h59_:=h59;try simp at h59_
                  cases hF
                 ·have h59_:=h59;try simp at h59_
                  have F60:=A8 F58 h57_ h57__ h57q h58 h58_ h59 h59_;try simp [F60]
                  and_intros
                  try any_goals first | omega | (simp [maxLen,F60] <;> omega)
                  obtain ⟨v36,h60,hF⟩:=AaG hF;refine AC (Ab7 k _ _ h60) (.cons (.same (by simp [F60])) .nil) ?_;rcases IFo hF with ⟨h61,hF⟩|⟨h61,hF⟩
                  ·have h61_:=h61;try simp at h61_
                   have F61:=A3 F60 h61 h61_;try simp [F61]
                   and_intros <;> first | exact GK g | apply r | omega | (simp [maxLen,F61] <;> omega)
                   refine hK2 _ _ _ ?_;refine RN h0 [] [(78,.bool true)] [] 0 (by simp [F61]) (by simp [F61]) ?_;exact JN (true) hF (by simp [F61]) (by simp [F61])
                  ·have h61_:=h61;try simp at h61_
                   rcases IFo hF with ⟨h62,hF⟩|⟨h62,hF⟩
                   ·have h62_:=h62;try simp at h62_
                    have F62:=A5 F60 h61 h61_ h62 h62_;try simp [F62]
                    and_intros <;> first | exact GK g | apply r | omega | (simp [maxLen,F62] <;> omega)
                    refine hK2 _ _ _ ?_;refine RN h0 [] [(78,.bool (decide (0<IntKind.wrap .i64 (IntKind.wrap .i64 ((v8.length : Int)+(v9.length : Int))+(v10.size : Int)))))] [] 0 (by simp [F62]) (by simp [F62]) ?_;exact JN ((decide (0<IntKind.wrap .i64 (IntKind.wrap .i64 ((v8.length : Int)+(v9.length : Int))+(v10.size : Int))))) hF (by simp [F62]) (by simp [F62])
                   ·have h62_:=h62;try simp at h62_
                    have F63:=A5 F60 h61 h61_ h62 h62_;try simp [F63]
                    and_intros <;> first | exact GK g | apply r | omega | (simp [maxLen,F63] <;> omega)
                    refine hK2 _ _ _ ?_;refine RN h0 [] [(78,.bool false)] [] 0 (by simp [F63]) (by simp [F63]) ?_;exact JN (false) hF (by simp [F63]) (by simp [F63])
               ·have h57_:=Aba h57;have h57__:=Abd h57;rcases IFo hF with ⟨h63,hF⟩|⟨h63,hF⟩
                ·have h63_:=h63;try simp at h63_
                 rcases IFo hF with ⟨h64,hF⟩|⟨h64,hF⟩
                 ·have h64_:=Aba h64;have h64__:=Abd h64;have F64:=A9 F58 h57 h57_ h57__ h63 h63_ h64 h64_ h64__;try simp [F64]
                  and_intros <;> first | exact GK g | apply r | omega | (simp [maxLen,F64] <;> omega)
                  refine hK2 _ _ _ ?_;refine RN h0 [] [(78,.bool true)] [] 0 (by simp [F64]) (by simp [F64]) ?_;exact JN (true) hF (by simp [F64]) (by simp [F64])
                 ·have h64q : (v2.size : Int)=32:=Classical.not_not.1 h64;have h64_:=Abf h64q;have h64__:=Abe h64q;have F65:=A9 F58 h57 h57_ h57__ h63 h63_ h64_ h64__ h64q;try simp [F65]
                  and_intros
                  try any_goals first | omega | (simp [maxLen,F65] <;> omega)
                  obtain ⟨v37,h65,hF⟩:=AaG hF;refine AC (Ab7 k _ _ h65) (.cons (.same (by simp [F65])) .nil) ?_;rcases IFo hF with ⟨h66,hF⟩|⟨h66,hF⟩
                  ·have h66_:=h66;try simp at h66_
                   have F66:=A3 F65 h66 h66_;try simp [F66]
                   and_intros <;> first | exact GK g | apply r | omega | (simp [maxLen,F66] <;> omega)
                   refine hK2 _ _ _ ?_;refine RN h0 [] [(78,.bool true)] [] 0 (by simp [F66]) (by simp [F66]) ?_;exact JN (true) hF (by simp [F66]) (by simp [F66])
                  ·have h66_:=h66;try simp at h66_
                   rcases IFo hF with ⟨h67,hF⟩|⟨h67,hF⟩
                   ·have h67_:=h67;try simp at h67_
                    have F67:=A5 F65 h66 h66_ h67 h67_;try simp [F67]
                    and_intros <;> first | exact GK g | apply r | omega | (simp [maxLen,F67] <;> omega)
                    refine hK2 _ _ _ ?_;refine RN h0 [] [(78,.bool (decide (0<IntKind.wrap .i64 (IntKind.wrap .i64 ((v8.length : Int)+(v9.length : Int))+(v10.size : Int)))))] [] 0 (by simp [F67]) (by simp [F67]) ?_;exact JN ((decide (0<IntKind.wrap .i64 (IntKind.wrap .i64 ((v8.length : Int)+(v9.length : Int))+(v10.size : Int))))) hF (by simp [F67]) (by simp [F67])
                   ·have h67_:=h67;try simp at h67_
                    have F68:=A5 F65 h66 h66_ h67 h67_;try simp [F68]
                    and_intros <;> first | exact GK g | apply r | omega | (simp [maxLen,F68] <;> omega)
                    refine hK2 _ _ _ ?_;refine RN h0 [] [(78,.bool false)] [] 0 (by simp [F68]) (by simp [F68]) ?_;exact JN (false) hF (by simp [F68]) (by simp [F68])
                ·have h63_:=h63;try simp at h63_
                 have F69:=A6 F58 h57 h57_ h57__ h63 h63_;try simp [F69]
                 and_intros
                 try any_goals first | omega | (simp [maxLen,F69] <;> omega)
                 obtain ⟨v38,h68,hF⟩:=AaG hF;refine AC (Ab7 k _ _ h68) (.cons (.same (by simp [F69])) .nil) ?_;rcases IFo hF with ⟨h69,hF⟩|⟨h69,hF⟩
                 ·have h69_:=h69;try simp at h69_
                  have F70:=A3 F69 h69 h69_;try simp [F70]
                  and_intros <;> first | exact GK g | apply r | omega | (simp [maxLen,F70] <;> omega)
                  refine hK2 _ _ _ ?_;refine RN h0 [] [(78,.bool true)] [] 0 (by simp [F70]) (by simp [F70]) ?_;exact JN (true) hF (by simp [F70]) (by simp [F70])
                 ·have h69_:=h69;try simp at h69_
                  rcases IFo hF with ⟨h70,hF⟩|⟨h70,hF⟩
                  ·have h70_:=h70;try simp at h70_
                   have F71:=A5 F69 h69 h69_ h70 h70_;try simp [F71]
                   and_intros <;> first | exact GK g | apply r | omega | (simp [maxLen,F71] <;> omega)
                   refine hK2 _ _ _ ?_;refine RN h0 [] [(78,.bool (decide (0<IntKind.wrap .i64 (IntKind.wrap .i64 ((v8.length : Int)+(v9.length : Int))+(v10.size : Int)))))] [] 0 (by simp [F71]) (by simp [F71]) ?_;exact JN ((decide (0<IntKind.wrap .i64 (IntKind.wrap .i64 ((v8.length : Int)+(v9.length : Int))+(v10.size : Int))))) hF (by simp [F71]) (by simp [F71])
                  ·have h70_:=h70;try simp at h70_
                   have F72:=A5 F69 h69 h69_ h70 h70_;try simp [F72]
                   and_intros <;> first | exact GK g | apply r | omega | (simp [maxLen,F72] <;> omega)
                   refine hK2 _ _ _ ?_;refine RN h0 [] [(78,.bool false)] [] 0 (by simp [F72]) (by simp [F72]) ?_;exact JN (false) hF (by simp [F72]) (by simp [F72])
              ·rintro v35 hF
               try dsimp only at hF
               unfold AaQ.J3 at hF;rcases IFo hF with ⟨h56,hF⟩|⟨h56,hF⟩
               ·have h56_:=h56;try simp at h56_
                have F73:=A3 F58 h56 h56_;refine CT (by simp [F73] <;> omega) ?_;refine SW F73 [] [none] [78] [(2,Iz 1)] [] [] 0 ?_;cases hF;exact AW.ret (hQ _ _ _ (by simp [Try.f52,F73]) (AaE (by simp [F73]))).1
               ·have h56_:=h56;try simp at h56_
                have F74:=A3 F58 h56 h56_;refine CF (by simp [F74] <;> omega) ?_;refine AW.skip (hK0 _ _ _ ?_);exact JN (()) hF (by simp [F74]) (by simp [F74])
 ·rintro ⟨⟩ hF
  try dsimp only at hF
  unfold AaQ.J1 at hF;refine SW trivial [] [none] [] [(2,Iz 0)] [] [] 0 ?_;cases hF;refine AW.ret (hQ _ _ _ ?_ (AaE ?_)).1
  ·simp [Try.f52]
  ·simp
theorem AcR (k : Nat) (v0 v1 : Int) (v2 : ByteArray) (v3 v4 v5 v6 v7 : Int) (v8 : (List Int)) (v9 : (List AaD)) (v10 : ByteArray) (v11 : Int) (v12 : ByteArray) (v13 : Bool) (hF : Abm k v0 v1 v2 v3 v4 v5 v6 v7 v8 v9 v10 v11 v12=some v13) :
 AbP Try.prog 51 [AV.agg [AV.int .i64 v0,AV.int .i64 v1,AV.str v2,AV.int .i64 v3,AV.int .i64 v4,AV.int .i64 v5,AV.int .i64 v6,AV.int .i64 v7,AV.lst false false (List.map (AV.int .i64) v8),Q0 v9,AV.str v10,AV.int .i64 v11,AV.str v12]] [] (AV.bool v13) []:=by
 unfold Abm at hF;refine EN Try.func51 ?_;intro c0 w0 Q h0 hQ
 refine WJ [(0,.agg [Iz v0,Iz v1,AV.str v2,Iz v3,Iz v4,Iz v5,Iz v6,Iz v7,Lz v8,Q0 v9,AV.str v10,Iz v11,AV.str v12])] [] 0 (by simp) ?_;refine SW trivial [] N2 [0] [(1,.ptr 0 0)] [] [(0,.cells [Iz v0,Iz v1,AV.str v2,Iz v3,Iz v4,Iz v5,Iz v6,Iz v7,Lz v8,Q0 v9,AV.str v10,Iz v11,AV.str v12])] 1 ?_;refine SR [] N9 fun _ _ g r=>?_;try simp
 and_intros
 try any_goals first | omega | (simp [maxLen] <;> omega)
 obtain ⟨v14,h1,hF⟩:=AaG hF;refine AC (Acz k _ _ _ _ _ _ _ _ _ _ _ _ _ _ h1) (.cons (.same (by simp)) .nil) ?_;obtain ⟨v15,h2,hF⟩:=AeJ hF;have h2_:=h2;try simp at h2_
 refine TL (A2 h2 h2_) g r [1] [(2,.bool v15)] [0] [] 1 ?_;cases hF;exact AW.ret (hQ _ _ _ (by simp [Try.f51,h2,h2_]) (AaE (by simp [h2,h2_]))).1
theorem AeP (k : Nat) (v0 v1 : Int) (v2 : ByteArray) (v3 v4 v5 v6 v7 : Int) (v8 : (List Int)) (v9 : (List AaD)) (v10 : ByteArray) (v11 : Int) (v12 : ByteArray) (v13 : (List Int)) (v14 : Int) (hF : AcP k v0 v1 v2 v3 v4 v5 v6 v7 v8 v9 v10 v11 v12=some (v13,v14)) :
 AbP Try.prog 48 [AV.agg [AV.int .i64 v0,AV.int .i64 v1,AV.str v2,AV.int .i64 v3,AV.int .i64 v4,AV.int .i64 v5,AV.int .i64 v6,AV.int .i64 v7,AV.lst false false (List.map (AV.int .i64) v8),Q0 v9,AV.str v10,AV.int .i64 v11,AV.str v12]] [] (AV.tup [Sc 0 v13,AV.int .i64 v14]) [some (.grow (List.map (AV.int .u8) v13))]:=by
 unfold AcP at hF;refine EN Try.func48 ?_;intro c0 w0 Q h0 hQ
 refine WJ [(0,.agg [Iz v0,Iz v1,AV.str v2,Iz v3,Iz v4,Iz v5,Iz v6,Iz v7,Lz v8,Q0 v9,AV.str v10,Iz v11,AV.str v12])] [] 0 (by simp) ?_;refine SW trivial [] N3 [0] [(1,.ptr 0 0)] [] [(0,.cells [Iz v0,Iz v1,AV.str v2,Iz v3,Iz v4,Iz v5,Iz v6,Iz v7,Lz v8,Q0 v9,AV.str v10,Iz v11,AV.str v12])] 1 ?_;refine AW.seq fun K0 hK0=>?_;obtain ⟨v15,h1,hF⟩:=AaG hF;refine CL trivial [] N3 (Acd k _ _ _ _ _ _ _ _ _ _ _ _ _ _ h1) [] [(4,Iz v15)] [] [] 1 ?_;refine SW trivial [] N2 [] [(8,.bool (v15 !=0))] [] [] 1 ?_;rcases IFo hF with ⟨h2,hF⟩|⟨h2,hF⟩
 ·have h2_:=Aba h2;have h2__:=Abd h2;have F1:=A3 h2 h2_ h2__;refine CT (by simp [F1] <;> omega) ?_;refine SW F1 [] N3 [1,4,8] [(2,.lst true true (List.map (AV.int .u8) ([] : List Int))),(3,Iz v15)] [0] [] 1 ?_;refine AW.own' 2 1 true (by simp [F1]) (by decide) ?_;refine RM h0 [(0,1)] [(2,.slc 0 0 1 (([] : List Int).length) false),(3,Iz v15)] [(0,.grow (List.map (AV.int .u8) ([] : List Int)))] 1 (by simp [F1]) (by simp [F1]) ?_;simp only [Option.some.injEq,Prod.mk.injEq] at hF;obtain ⟨e0,e1⟩:=hF;subst e0 e1;exact AW.ret (hQ _ _ _ (by simp [Try.f48,F1]) (AaE (by simp [F1]))).1
 ·have h2q : v15=0:=Classical.not_not.1 h2;have h2_:=Abf h2q;have h2__:=Abe h2q;have F2:=A3 h2_ h2__ h2q;refine CF (by simp [F2] <;> omega) ?_;refine AW.skip (hK0 _ _ _ ?_);refine AW.seq fun K1 hK1=>?_;obtain ⟨v16,h3,hF⟩:=AaG hF;refine CL F2 [] N3 (AcR k _ _ _ _ _ _ _ _ _ _ _ _ _ _ h3) [4,8] [(12,.bool (!v16))] [] [] 1 ?_;rcases IFo hF with ⟨h4,hF⟩|⟨h4,hF⟩
  ·have h4_:=h4;try simp at h4_
   have F3:=A3 F2 h4 h4_;refine CT (by simp [F3] <;> omega) ?_;refine SW F3 [] N2 [1,12] [(2,.lst true true (List.map (AV.int .u8) ([] : List Int))),(3,Iz 6)] [0] [] 1 ?_;refine AW.own' 2 1 true (by simp [F3]) (by decide) ?_;refine RM h0 [(0,1)] [(2,.slc 0 0 1 (([] : List Int).length) false),(3,Iz 6)] [(0,.grow (List.map (AV.int .u8) ([] : List Int)))] 1 (by simp [F3]) (by simp [F3]) ?_;simp only [Option.some.injEq,Prod.mk.injEq] at hF;obtain ⟨e0,e1⟩:=hF;subst e0 e1;exact AW.ret (hQ _ _ _ (by simp [Try.f48,F3]) (AaE (by simp [F3]))).1
  ·have h4_:=h4;try simp at h4_
   have F4:=A3 F2 h4 h4_;refine CF (by simp [F4] <;> omega) ?_;refine AW.skip (hK1 _ _ _ ?_);refine SQ [] N12 fun _ _ g r=>?_;try simp [F4]
   and_intros
   try any_goals first | omega | (simp [maxLen,F4] <;> omega)
   obtain ⟨v17,h5,hF⟩:=AaG hF;refine AC (Adc k _ _ _ _ _ _ _ _ _ _ _ _ _ _ h5) (.cons (.same (by simp [F4])) .nil) ?_;try simp [F4]
   and_intros
   try any_goals first | omega | (simp [maxLen,F4] <;> omega)
   obtain ⟨v18,h6,hF⟩:=AaG hF;refine AaO (Ac8 k _ _ _ h6) (by simp) [] [1] [] rfl (.cons (Coe.l (o := .grow (List.map (AV.int .u8) v17)) (by simp [F4]) rfl (by simp [F4]) (by simp [AcA]) (by simp [F4]) (by simp [F4])) (.cons (.same (by simp [F4])) .nil)) (by simp [F4]) (by decide) (by simp) (by simp) (.inr ⟨by simp,by simp⟩) (by simp) (by simp) ?_;try simp [F4]
   and_intros
   try any_goals first | omega | (simp [maxLen,F4] <;> omega)
   obtain ⟨v19,h7,hF⟩:=AaG hF;refine AaO (Aev k _ _ _ h7) (by simp) [] [2] [] rfl (.cons (Coe.l (o := .grow (List.map (AV.int .u8) v18)) (by simp [F4]) rfl (by simp [F4]) (by simp [AcA]) (by simp [F4]) (by simp [F4])) (.cons (.same (by simp [F4])) .nil)) (by simp [F4]) (by decide) (by simp) (by simp) (.inr ⟨by simp,by simp⟩) (by simp) (by simp) ?_;try simp [F4]
   and_intros <;> first | exact GK g | apply r | omega | (simp [maxLen,F4] <;> omega)
   refine RM h0 [(0,3)] [(2,Sc 0 v19),(3,Iz 0)] [(0,.grow (List.map (AV.int .u8) v19))] 1 (by simp [F4]) (by simp [F4]) ?_;simp only [Option.some.injEq,Prod.mk.injEq] at hF;obtain ⟨e0,e1⟩:=hF;subst e0 e1;exact AW.ret (hQ _ _ _ (by simp [Try.f48,F4]) (AaE (by simp [F4]))).1
end Go.TF
