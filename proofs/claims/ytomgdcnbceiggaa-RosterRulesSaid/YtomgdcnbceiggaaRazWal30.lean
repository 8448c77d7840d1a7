import Derived.Test.YtomgdcnbceiggaaRazWal27
import Derived.Test.YtomgdcnbceiggaaRazWal28
import Derived.Test.YtomgdcnbceiggaaRazWal29
set_option linter.unusedVariables false
set_option linter.unusedSimpArgs false
set_option maxRecDepth 100000
set_option maxHeartbeats 4000000
namespace Go.TF
open Go Go.Abs Go.Proofs Go.Proofs.YtomgdcnbceiggaaRaT
theorem AfL (k : Nat) (v0 : Int) (v1 : (List Aam)) (v2 : (List Int)) (v3 : Int) (hF : AaS k v0 v1 v2=some v3) :
 Aa0 Try.prog 71 [AV.agg [AV.int .i64 v0,Q0 v1,AV.lst false false (List.map (AV.int .i64) v2)]] [] (AV.int .i64 v3) []:=by
 unfold AaS at hF;refine EN Try.func71 ?_;intro c0 w0 Q h0 hQ
 refine WK [(0,AV.agg [Iz v0,Q0 v1,Lz v2])] [] 0 (by simp) (by simp) ?_;refine SQ [] [none,none] fun _ _ g r=>?_;try simp
 and_intros <;> first | exact GK g | apply r | omega | (simp [maxLen] <;> omega)
 refine WK [(1,AV.ptr 0 0)] [(0,.cells [Iz v0,Q0 v1,Lz v2])] 1 (by simp) (by simp) ?_;refine AW.seq fun K401 hK401=>?_;refine SQ [] [none,none,none,none,some (8,false),some (8,false),some (8,false),none,none,some (13,false),some (13,false),some (13,false),some (13,false),none,none,some (19,false),some (19,false),some (19,false),some (19,false),some (19,false),some (19,false),none] fun _ _ g r=>?_;by_cases h1 : v0<0
 ·replace hF:=AaF h1 hF;have h1_:=h1;try simp at h1_
  try simp [h1,h1_]
  and_intros <;> first | exact GK g | apply r | omega | (simp [h1,h1_,maxLen] <;> omega)
  refine WK [(1,AV.ptr 0 0),(26,AV.bool true)] [(0,.cells [Iz v0,Q0 v1,Lz v2])] 1 (by simp [h1,h1_]) (by simp [h1,h1_]) ?_;refine CT (by simp [h1,h1_]) ?_;refine SQ [] [none] fun _ _ g r=>?_;try simp [h1,h1_]
  and_intros <;> first | exact GK g | apply r | omega | (simp [h1,h1_,maxLen] <;> omega)
  refine WK [(2,Iz 14)] [] 1 (by simp [h1,h1_]) (by simp [h1,h1_]) ?_;simp only [Option.some.injEq] at hF;subst hF;refine AW.ret (hQ _ _ _ ?_ (AaB ?_)).1
  ·simp [Try.f71,h1,h1_]
  ·simp [h1,h1_]
 ·replace hF:=AaG h1 hF;have h1_:=h1;try simp at h1_
  by_cases h2 : 64<v0
  ·replace hF:=AaF h2 hF;have h2_:=h2;try simp at h2_
   have F1:=A4 h1 h1_ h2 h2_;try simp [F1]
   and_intros <;> first | exact GK g | apply r | omega | (simp [maxLen,F1] <;> omega)
   refine WK [(1,AV.ptr 0 0),(26,AV.bool true)] [(0,.cells [Iz v0,Q0 v1,Lz v2])] 1 (by simp [F1]) (by simp [F1]) ?_;refine CT (by simp [F1]) ?_;refine SQ [] [none] fun _ _ g r=>?_;try simp [F1]
   and_intros <;> first | exact GK g | apply r | omega | (simp [maxLen,F1] <;> omega)
   refine WK [(2,Iz 14)] [] 1 (by simp [F1]) (by simp [F1]) ?_;simp only [Option.some.injEq] at hF;subst hF;refine AW.ret (hQ _ _ _ ?_ (AaB ?_)).1
   ·simp [Try.f71,F1]
   ·simp [F1]
  ·replace hF:=AaG h2 hF;have h2_:=h2;try simp at h2_
   by_cases h3 : 500<(v1.length : Int)
   ·replace hF:=AaF h3 hF;have h3_:=h3;try simp at h3_
    have F2:=A6 h1 h1_ h2 h2_ h3 h3_;try simp [F2]
    and_intros <;> first | exact GK g | apply r | omega | (simp [maxLen,F2] <;> omega)
    refine WK [(1,AV.ptr 0 0),(26,AV.bool true)] [(0,.cells [Iz v0,Q0 v1,Lz v2])] 1 (by simp [F2]) (by simp [F2]) ?_;refine CT (by simp [F2]) ?_;refine SQ [] [none] fun _ _ g r=>?_;try simp [F2]
    and_intros <;> first | exact GK g | apply r | omega | (simp [maxLen,F2] <;> omega)
    refine WK [(2,Iz 14)] [] 1 (by simp [F2]) (by simp [F2]) ?_;simp only [Option.some.injEq] at hF;subst hF;refine AW.ret (hQ _ _ _ ?_ (AaB ?_)).1
    ·simp [Try.f71,F2]
    ·simp [F2]
   ·replace hF:=AaG h3 hF;have h3_:=h3;try simp at h3_
    have F3:=A6 h1 h1_ h2 h2_ h3 h3_;try simp [F3]
    and_intros
    try any_goals first | omega | (simp [maxLen,F3] <;> omega)
    obtain ⟨v4,h4,hF⟩:=AaD hF;refine AC (AeR k _ _ _ h4) (.cons (.same (by simp [F3])) (.cons (.same (by simp [F3])) .nil)) ?_;try simp [F3]
    and_intros <;> first | exact GK g | apply r | omega | (simp [maxLen,F3] <;> omega)
    refine WK [(1,AV.ptr 0 0),(26,AV.bool (!v4))] [(0,.cells [Iz v0,Q0 v1,Lz v2])] 1 (by simp [F3]) (by simp [F3]) ?_;by_cases h5 : (!v4)=true
    ·replace hF:=AaF h5 hF;have h5_:=h5;try simp at h5_
     have F4:=A3 F3 h5 h5_;refine CT (by simp [F4] <;> omega) ?_;refine SQ [] [none] fun _ _ g r=>?_;try simp [F4]
     and_intros <;> first | exact GK g | apply r | omega | (simp [maxLen,F4] <;> omega)
     refine WK [(2,Iz 14)] [] 1 (by simp [F4]) (by simp [F4]) ?_;simp only [Option.some.injEq] at hF;subst hF;refine AW.ret (hQ _ _ _ ?_ (AaB ?_)).1
     ·simp [Try.f71,F4]
     ·simp [F4]
    ·replace hF:=AaG h5 hF;have h5_:=h5;try simp at h5_
     have F5:=A3 F3 h5 h5_;refine CF (by simp [F5] <;> omega) ?_;refine AW.skip ?_;refine hK401 _ _ _ ?_;refine AW.seq fun K597 hK597=>?_;refine SQ [] [none] fun _ _ g r=>?_;try simp [F5]
     and_intros <;> first | exact GK g | apply r | omega | (simp [maxLen,F5] <;> omega)
     refine WK [(1,AV.ptr 0 0),(3,Iz 0)] [(0,.cells [Iz v0,Q0 v1,Lz v2])] 1 (by simp [F5]) (by simp [F5]) ?_;refine AW.block ?_;refine AW.loopF (α:=Int) (fun n v5=>AaS.L1 k v0 v1 v2 n v5=some v3) (fun v5=>[(1,AV.ptr 0 0),(3,Iz v5)]) (fun v5=>[(0,.cells [Iz v0,Q0 v1,Lz v2])]) 1 k (0) hF (by simp [F5]) (by simp [F5]) (by simp) ?_;rintro (_|n1) v5 hF K740 hK740
     ·try dsimp only at hF
      rw [AaS.L1] at hF; cases hF
     try dsimp only at hF
     rw [AaS.L1] at hF;refine AW.seq fun K742 hK742=>?_;refine SQ [] [none,none,none,none,none] fun _ _ g r=>?_;try simp [F5]
     and_intros <;> first | exact GK g | apply r | omega | (simp [maxLen,F5] <;> omega)
     refine WK [(1,AV.ptr 0 0),(3,Iz v5),(31,AV.bool (decide (v5<(v1.length : Int))))] [(0,.cells [Iz v0,Q0 v1,Lz v2])] 1 (by simp [F5]) (by simp [F5]) ?_;by_cases h6 : v5<(v1.length : Int)
     ·replace hF:=AaF h6 hF;have h6_:=h6;try simp at h6_
      have F6:=A3 F5 h6 h6_;refine CT (by simp [F6] <;> omega) ?_;refine AW.skip ?_;refine hK742 _ _ _ ?_;refine AW.seq fun K765 hK765=>?_;refine AW.block ?_;refine SQ [] [none,none,none,none,none,none,none] fun _ _ g r=>?_;obtain ⟨v6,h7,h8,h9,hF⟩:=Aab hF;have h9_:=Aaw h9;try simp at h9_
      have h8_:=h8;try simp at h8_
      have F7:=A6 F6 h7 h8 h9 h9_ h8_;try simp [F7]
      and_intros <;> first | exact GK g | apply r | omega | (simp [maxLen,F7] <;> omega)
      refine WK [(1,AV.ptr 0 0),(3,Iz v5),(4,AV.ptr 1 0)] [(0,.cells [Iz v0,Q0 v1,Lz v2]),(1,.cells [Iz v6.From,Iz v6.To,Iz v6.Level])] 2 (by simp [F7]) (by simp [F7]) ?_;refine AW.seq fun K775 hK775=>?_;refine SQ [] [none,none,none,none,some (42,false),some (42,false),some (42,false),some (42,false),some (42,false),none,none,some (49,false),some (49,false),some (49,false),none,none,some (54,false),some (54,false),some (54,false),some (54,false),some (54,false),none,none,some (61,false),some (61,false),some (61,false),some (61,false),some (61,false),none,none,some (68,false),some (68,false),some (68,false),none,none,some (73,false),some (73,false),some (73,false),none] fun _ _ g r=>?_;by_cases h10 : v6.From<0
      ·replace hF:=AaF h10 hF;have h10_:=h10;try simp at h10_
       have F8:=A3 F7 h10 h10_;try simp [F8]
       and_intros <;> first | exact GK g | apply r | omega | (simp [maxLen,F8] <;> omega)
       refine WK [(1,AV.ptr 0 0),(3,Iz v5),(4,AV.ptr 1 0),(77,AV.bool true)] [(0,.cells [Iz v0,Q0 v1,Lz v2]),(1,.cells [Iz v6.From,Iz v6.To,Iz v6.Level])] 2 (by simp [F8]) (by simp [F8]) ?_;refine CT (by simp [F8]) ?_;refine SQ [] [none] fun _ _ g r=>?_;try simp [F8]
       and_intros <;> first | exact GK g | apply r | omega | (simp [maxLen,F8] <;> omega)
       refine WK [(2,Iz 14)] [] 2 (by simp [F8]) (by simp [F8]) ?_;simp only [Option.some.injEq] at hF;subst hF;refine AW.ret (hQ _ _ _ ?_ (AaB ?_)).1
       ·simp [Try.f71,F8]
       ·simp [F8]
      ·replace hF:=AaG h10 hF;have h10_:=h10;try simp at h10_
       by_cases h11 : v0≤v6.From
       ·replace hF:=AaF h11 hF;have h11_:=h11;try simp at h11_
        have F9:=A5 F7 h10 h10_ h11 h11_;try simp [F9]
        and_intros <;> first | exact GK g | apply r | omega | (simp [maxLen,F9] <;> omega)
        refine WK [(1,AV.ptr 0 0),(3,Iz v5),(4,AV.ptr 1 0),(77,AV.bool true)] [(0,.cells [Iz v0,Q0 v1,Lz v2]),(1,.cells [Iz v6.From,Iz v6.To,Iz v6.Level])] 2 (by simp [F9]) (by simp [F9]) ?_;refine CT (by simp [F9]) ?_;refine SQ [] [none] fun _ _ g r=>?_;try simp [F9]
        and_intros <;> first | exact GK g | apply r | omega | (simp [maxLen,F9] <;> omega)
        refine WK [(2,Iz 14)] [] 2 (by simp [F9]) (by simp [F9]) ?_;simp only [Option.some.injEq] at hF;subst hF;refine AW.ret (hQ _ _ _ ?_ (AaB ?_)).1
        ·simp [Try.f71,F9]
        ·simp [F9]
       ·replace hF:=AaG h11 hF;have h11_:=h11;try simp at h11_
        by_cases h12 : v6.To<0
        ·replace hF:=AaF h12 hF;have h12_:=h12;try simp at h12_
         have F10:=A7 F7 h10 h10_ h11 h11_ h12 h12_;try simp [F10]
         and_intros <;> first | exact GK g | apply r | omega | (simp [maxLen,F10] <;> omega)
         refine WK [(1,AV.ptr 0 0),(3,Iz v5),(4,AV.ptr 1 0),(77,AV.bool true)] [(0,.cells [Iz v0,Q0 v1,Lz v2]),(1,.cells [Iz v6.From,Iz v6.To,Iz v6.Level])] 2 (by simp [F10]) (by simp [F10]) ?_;refine CT (by simp [F10]) ?_;refine SQ [] [none] fun _ _ g r=>?_;try simp [F10]
         and_intros <;> first | exact GK g | apply r | omega | (simp [maxLen,F10] <;> omega)
         refine WK [(2,Iz 14)] [] 2 (by simp [F10]) (by simp [F10]) ?_;simp only [Option.some.injEq] at hF;subst hF;refine AW.ret (hQ _ _ _ ?_ (AaB ?_)).1
         ·simp [Try.f71,F10]
         ·simp [F10]
        ·replace hF:=AaG h12 hF;have h12_:=h12;try simp at h12_
         by_cases h13 : v0≤v6.To
         ·replace hF:=AaF h13 hF;have h13_:=h13;try simp at h13_
          have F11:=A9 F7 h10 h10_ h11 h11_ h12 h12_ h13 h13_;try simp [F11]
          and_intros <;> first | exact GK g | apply r | omega | (simp [maxLen,F11] <;> omega)
          refine WK [(1,AV.ptr 0 0),(3,Iz v5),(4,AV.ptr 1 0),(77,AV.bool true)] [(0,.cells [Iz v0,Q0 v1,Lz v2]),(1,.cells [Iz v6.From,Iz v6.To,Iz v6.Level])] 2 (by simp [F11]) (by simp [F11]) ?_;refine CT (by simp [F11]) ?_;refine SQ [] [none] fun _ _ g r=>?_;try simp [F11]
          and_intros <;> first | exact GK g | apply r | omega | (simp [maxLen,F11] <;> omega)
          refine WK [(2,Iz 14)] [] 2 (by simp [F11]) (by simp [F11]) ?_;simp only [Option.some.injEq] at hF;subst hF;refine AW.ret (hQ _ _ _ ?_ (AaB ?_)).1
          ·simp [Try.f71,F11]
          ·simp [F11]
         ·replace hF:=AaG h13 hF;have h13_:=h13;try simp at h13_
          by_cases h14 : v6.From=v6.To
          ·replace hF:=AaF h14 hF;have h14q : v6.From=v6.To:=h14;have h14_:=AbB h14q;have h14__:=AbA h14q;have F12:=A9 F7 h10 h10_ h11 h11_ h12 h12_ h13 (A3 h13_ h14_ h14__);try simp [F12]
           and_intros <;> first | exact GK g | apply r | omega | (simp [maxLen,F12] <;> omega)
           refine WK [(1,AV.ptr 0 0),(3,Iz v5),(4,AV.ptr 1 0),(77,AV.bool true)] [(0,.cells [Iz v0,Q0 v1,Lz v2]),(1,.cells [Iz v6.From,Iz v6.To,Iz v6.Level])] 2 (by simp [F12]) (by simp [F12]) ?_;refine CT (by simp [F12]) ?_;refine SQ [] [none] fun _ _ g r=>?_;try simp [F12]
           and_intros <;> first | exact GK g | apply r | omega | (simp [maxLen,F12] <;> omega)
           refine WK [(2,Iz 14)] [] 2 (by simp [F12]) (by simp [F12]) ?_;simp only [Option.some.injEq] at hF;subst hF;refine AW.ret (hQ _ _ _ ?_ (AaB ?_)).1
           ·simp [Try.f71,F12]
           ·simp [F12]
          ·replace hF:=AaG h14 hF;have h14_:=Aa7 h14;have h14__:=Aa9 h14;by_cases h15 : v6.Level<1
           ·replace hF:=AaF h15 hF;have h15_:=h15;try simp at h15_
            have F13:=A9 F7 h10 h10_ h11 h11_ h12 h12_ h13 (A6 h13_ h14 h14_ h14__ h15 h15_);try simp [F13]
            and_intros <;> first | exact GK g | apply r | omega | (simp [maxLen,F13] <;> omega)
            refine WK [(1,AV.ptr 0 0),(3,Iz v5),(4,AV.ptr 1 0),(77,AV.bool true)] [(0,.cells [Iz v0,Q0 v1,Lz v2]),(1,.cells [Iz v6.From,Iz v6.To,Iz v6.Level])] 2 (by simp [F13]) (by simp [F13]) ?_;refine CT (by simp [F13]) ?_;refine SQ [] [none] fun _ _ g r=>?_;try simp [F13]
            and_intros <;> first | exact GK g | apply r | omega | (simp [maxLen,F13] <;> omega)
            refine WK [(2,Iz 14)] [] 2 (by simp [F13]) (by simp [F13]) ?_;simp only [Option.some.injEq] at hF;subst hF;refine AW.ret (hQ _ _ _ ?_ (AaB ?_)).1
            ·simp [Try.f71,F13]
            ·simp [F13]
           ·replace hF:=AaG h15 hF;have h15_:=h15;try simp at h15_
            have F14:=A9 F7 h10 h10_ h11 h11_ h12 h12_ h13 (A6 h13_ h14 h14_ h14__ h15 h15_);try simp [F14]
            and_intros <;> first | exact GK g | apply r | omega | (simp [maxLen,F14] <;> omega)
            refine WK [(1,AV.ptr 0 0),(3,Iz v5),(4,AV.ptr 1 0),(77,AV.bool (decide (3<v6.Level)))] [(0,.cells [Iz v0,Q0 v1,Lz v2]),(1,.cells [Iz v6.From,Iz v6.To,Iz v6.Level])] 2 (by simp [F14]) (by simp [F14]) ?_;by_cases h16 : 3<v6.Level
            ·replace hF:=AaF h16 hF;have h16_:=h16;try simp at h16_
             have F15:=A3 F14 h16 h16_;refine CT (by simp [F15] <;> omega) ?_;refine SQ [] [none] fun _ _ g r=>?_;try simp [F15]
             and_intros <;> first | exact GK g | apply r | omega | (simp [maxLen,F15] <;> omega)
             refine WK [(2,Iz 14)] [] 2 (by simp [F15]) (by simp [F15]) ?_;simp only [Option.some.injEq] at hF;subst hF;refine AW.ret (hQ _ _ _ ?_ (AaB ?_)).1
             ·simp [Try.f71,F15]
             ·simp [F15]
            ·replace hF:=AaG h16 hF;have h16_:=h16;try simp at h16_
             have F16:=A3 F14 h16 h16_;refine CF (by simp [F16] <;> omega) ?_;refine AW.skip ?_;refine hK775 _ _ _ ?_;refine AW.midF (α:=Bool) (fun v7=>AaS.J2 k v5 (fun v5_=>AaS.L1 k v0 v1 v2 n1 v5_) v7=some v3) (fun v7=>[(1,AV.ptr 0 0),(3,Iz v5),(104,AV.bool v7)]) (fun v7=>[(0,.cells [Iz v0,Q0 v1,Lz v2])]) 1 (fun K787 hK787=>?_) ?_
             ·refine RG [] [none,none,none,some (80,true),some (80,true),some (80,true),some (80,true),some (80,true),some (80,true),some (80,true),some (80,true),some (80,true),none,none,some (91,false),some (91,false),some (91,false),some (91,false),some (91,false),none,none,some (98,false),some (98,false),some (98,false),some (98,false),some (98,false),none] fun _ _ g r=>?_;by_cases h18 : 0<v5
              ·replace hF:=AaF h18 hF;have h18_:=h18;try simp at h18_
               obtain ⟨v8,h19,h20,h21,hF⟩:=Aab hF;have h21_:=Aaw h21;try simp at h21_
               have h20_:=h20;try simp at h20_
               have F17:=A8 F16 h18 h18_ h19 h20 h21 h21_ h20_;try simp [F17]
               and_intros
               try any_goals first | omega | (simp [maxLen,F17] <;> omega)
               obtain ⟨v9,h22,hF⟩:=AaD hF;refine AC (Aeo k _ _ _ _ _ _ _ h22) (.cons (.same (by simp [F17])) (.cons (.same (by simp [F17])) .nil)) ?_;by_cases h23 : (!v9)=true
               ·replace hF:=AaF h23 hF;have h23_:=h23;try simp at h23_
                have F18:=A3 F17 h23 h23_;try simp [F18]
                and_intros <;> first | exact GK g | apply r | omega | (simp [maxLen,F18] <;> omega)
                refine hK787 _ _ _ ?_;refine RN h0 [(0,0)] [(1,AV.ptr 0 0),(3,Iz v5),(104,AV.bool true)] [(0,.cells [Iz v0,Q0 v1,Lz v2])] 1 (by simp [F18]) (by simp [F18]) ?_;exact JN (true) hF (by simp [F18]) (by simp [F18])
               ·replace hF:=AaG h23 hF;have h23_:=h23;try simp at h23_
                have F19:=A3 F17 h23 h23_;try simp [F19]
                and_intros
                try any_goals first | omega | (simp [maxLen,F19] <;> omega)
                obtain ⟨v10,h24,hF⟩:=AaD hF;refine AC (Acd k _ _ _ h24) (.cons (.same (by simp [F19])) (.cons (.same (by simp [F19])) .nil)) ?_;by_cases h25 : v10=true
                ·replace hF:=AaF h25 hF;have h25_:=h25;try simp at h25_
                 have F20:=A3 F19 h25 h25_;try simp [F20]
                 and_intros <;> first | exact GK g | apply r | omega | (simp [maxLen,F20] <;> omega)
                 refine hK787 _ _ _ ?_;refine RN h0 [(0,0)] [(1,AV.ptr 0 0),(3,Iz v5),(104,AV.bool true)] [(0,.cells [Iz v0,Q0 v1,Lz v2])] 1 (by simp [F20]) (by simp [F20]) ?_;exact JN (true) hF (by simp [F20]) (by simp [F20])
                ·replace hF:=AaG h25 hF;have h25_:=h25;try simp at h25_
                 have F21:=A3 F19 h25 h25_;try simp [F21]
                 and_intros
                 try any_goals first | omega | (simp [maxLen,F21] <;> omega)
                 obtain ⟨v11,h26,hF⟩:=AaD hF;refine AC (Acd k _ _ _ h26) (.cons (.same (by simp [F21])) (.cons (.same (by simp [F21])) .nil)) ?_;try simp [F21]
                 and_intros <;> first | exact GK g | apply r | omega | (simp [maxLen,F21] <;> omega)
                 refine hK787 _ _ _ ?_;refine RN h0 [(0,0)] [(1,AV.ptr 0 0),(3,Iz v5),(104,AV.bool v11)] [(0,.cells [Iz v0,Q0 v1,Lz v2])] 1 (by simp [F21]) (by simp [F21]) ?_;exact JN (v11) hF (by simp [F21]) (by simp [F21])
              ·replace hF:=AaG h18 hF;have h18_:=h18;try simp at h18_
               have F22:=A3 F16 h18 h18_;try simp [F22]
               and_intros
               try any_goals first | omega | (simp [maxLen,F22] <;> omega)
               obtain ⟨v12,h27,hF⟩:=AaD hF;refine AC (Acd k _ _ _ h27) (.cons (.same (by simp [F22])) (.cons (.same (by simp [F22])) .nil)) ?_;by_cases h28 : v12=true
               ·replace hF:=AaF h28 hF;have h28_:=h28;try simp at h28_
                have F23:=A3 F22 h28 h28_;try simp [F23]
                and_intros <;> first | exact GK g | apply r | omega | (simp [maxLen,F23] <;> omega)
                refine hK787 _ _ _ ?_;refine RN h0 [(0,0)] [(1,AV.ptr 0 0),(3,Iz v5),(104,AV.bool true)] [(0,.cells [Iz v0,Q0 v1,Lz v2])] 1 (by simp [F23]) (by simp [F23]) ?_;exact JN (true) hF (by simp [F23]) (by simp [F23])
               ·replace hF:=AaG h28 hF;have h28_:=h28;try simp at h28_
                have F24:=A3 F22 h28 h28_;try simp [F24]
                and_intros
                try any_goals first | omega | (simp [maxLen,F24] <;> omega)
                obtain ⟨v13,h29,hF⟩:=AaD hF;refine AC (Acd k _ _ _ h29) (.cons (.same (by simp [F24])) (.cons (.same (by simp [F24])) .nil)) ?_;try simp [F24]
                and_intros <;> first | exact GK g | apply r | omega | (simp [maxLen,F24] <;> omega)
                refine hK787 _ _ _ ?_;refine RN h0 [(0,0)] [(1,AV.ptr 0 0),(3,Iz v5),(104,AV.bool v13)] [(0,.cells [Iz v0,Q0 v1,Lz v2])] 1 (by simp [F24]) (by simp [F24]) ?_;exact JN (v13) hF (by simp [F24]) (by simp [F24])
             ·rintro v7 hF
              try dsimp only at hF
              unfold AaS.J2 at hF;by_cases h17 : v7=true
              ·replace hF:=AaF h17 hF;have h17_:=h17;try simp at h17_
               have F25:=A3 F16 h17 h17_;refine CT (by simp [F25] <;> omega) ?_;refine SQ [] [none] fun _ _ g r=>?_;try simp [F25]
               and_intros <;> first | exact GK g | apply r | omega | (simp [maxLen,F25] <;> omega)
               refine WK [(2,Iz 14)] [] 1 (by simp [F25]) (by simp [F25]) ?_;simp only [Option.some.injEq] at hF;subst hF;refine AW.ret (hQ _ _ _ ?_ (AaB ?_)).1
               ·simp [Try.f71,F25]
               ·simp [F25]
              ·replace hF:=AaG h17 hF;have h17_:=h17;try simp at h17_
               have F26:=A3 F16 h17 h17_;refine CF (by simp [F26] <;> omega) ?_;refine AW.skip ?_;refine hK765 _ _ _ ?_;refine RG [] [none,none,none] fun _ _ g r=>?_;try simp [F26]
               and_intros <;> first | exact GK g | apply r | omega | (simp [maxLen,F26] <;> omega)
               refine hK740 _ _ _ ?_;exact NX (k':=n1) (IntKind.wrap .i64 (v5+1)) hF (by simp [F26]) (by simp [F26])
     ·replace hF:=AaG h6 hF;have h6_:=h6;try simp at h6_
      have F27:=A3 F5 h6 h6_;refine CF (by simp [F27] <;> omega) ?_;refine AW.exit ?_;try simp
      refine hK597 _ _ _ ?_;refine SQ [] [none] fun _ _ g r=>?_;try simp [F27]
      and_intros <;> first | exact GK g | apply r | omega | (simp [maxLen,F27] <;> omega)
      refine WK [(2,Iz 0)] [] 1 (by simp [F27]) (by simp [F27]) ?_;simp only [Option.some.injEq] at hF;subst hF;refine AW.ret (hQ _ _ _ ?_ (AaB ?_)).1
      ·simp [Try.f71,F27]
      ·simp [F27]
theorem Aen (k : Nat) (v0 : Int) (v1 : (List Aam)) (v2 : (List Int)) (v3 : (List Int)) (v4 : (List Int)) (v5 : Int) (v6 : Bool) (hF : AaU k v0 v1 v2 v3 v4 v5=some v6) :
 Aa0 Try.prog 72 [AV.agg [AV.int .i64 v0,Q0 v1,AV.lst false false (List.map (AV.int .i64) v2)],AV.agg [AV.lst false false (List.map (AV.int .i64) v3),AV.lst false false (List.map (AV.int .i64) v4),AV.int .i64 v5]] [] (AV.bool v6) []:=by
 unfold AaU at hF;refine EN Try.func72 ?_;intro c0 w0 Q h0 hQ
 refine WK [(0,AV.agg [Iz v0,Q0 v1,Lz v2]),(1,AV.agg [Lz v3,Lz v4,Iz v5])] [] 0 (by simp) (by simp) ?_;refine SQ [] [none,none,none] fun _ _ g r=>?_;try simp
 and_intros <;> first | exact GK g | apply r | omega | (simp [maxLen] <;> omega)
 refine WK [(2,AV.ptr 0 0),(3,AV.ptr 1 0)] [(0,.cells [Iz v0,Q0 v1,Lz v2]),(1,.cells [Lz v3,Lz v4,Iz v5])] 2 (by simp) (by simp) ?_;refine AW.seq fun K127 hK127=>?_;refine SQ [] [none,none,none,none,none,some (10,false),some (10,false),some (10,false),some (10,false),some (10,false),some (10,false),none,none,some (18,false),some (18,false),some (18,false),some (18,false),none,none,some (24,false),some (24,false),some (24,false),some (24,false),none,none,some (30,false),some (30,false),some (30,false),none,none,some (35,false),some (35,false),some (35,false),none] fun _ _ g r=>?_;by_cases h1 : (v3.length : Int)=0
 ·replace hF:=AaF h1 hF;have h1q : (v3.length : Int)=0:=h1;have h1_:=AbB h1q;have h1__:=AbA h1q;have F1:=A3 h1_ h1__ h1q;try simp [F1]
  and_intros <;> first | exact GK g | apply r | omega | (simp [maxLen,F1] <;> omega)
  refine WK [(3,AV.ptr 1 0),(39,AV.bool true)] [(1,.cells [Lz v3,Lz v4,Iz v5])] 2 (by simp [F1]) (by simp [F1]) ?_;refine CT (by simp [F1]) ?_;refine SQ [] [none] fun _ _ g r=>?_;try simp [F1]
  and_intros <;> first | exact GK g | apply r | omega | (simp [maxLen,F1] <;> omega)
  refine WK [(4,AV.bool false)] [] 2 (by simp [F1]) (by simp [F1]) ?_;simp only [Option.some.injEq] at hF;subst hF;refine AW.ret (hQ _ _ _ ?_ (AaB ?_)).1
  ·simp [Try.f72,F1]
  ·simp [F1]
 ·replace hF:=AaG h1 hF;have h1_:=Aa7 h1;have h1__:=Aa9 h1;have F2:=A3 h1 h1_ h1__;try simp [F2]
  and_intros
  try any_goals first | omega | (simp [maxLen,F2] <;> omega)
  obtain ⟨v7,h2,hF⟩:=AaD hF;refine AC (AeR k _ _ _ h2) (.cons (.same (by simp [F2])) (.cons (.same (by simp [F2])) .nil)) ?_;by_cases h3 : (!v7)=true
  ·replace hF:=AaF h3 hF;have h3_:=h3;try simp at h3_
   have F3:=A3 F2 h3 h3_;try simp [F3]
   and_intros <;> first | exact GK g | apply r | omega | (simp [maxLen,F3] <;> omega)
   refine WK [(3,AV.ptr 1 0),(39,AV.bool true)] [(1,.cells [Lz v3,Lz v4,Iz v5])] 2 (by simp [F3]) (by simp [F3]) ?_;refine CT (by simp [F3]) ?_;refine SQ [] [none] fun _ _ g r=>?_;try simp [F3]
   and_intros <;> first | exact GK g | apply r | omega | (simp [maxLen,F3] <;> omega)
   refine WK [(4,AV.bool false)] [] 2 (by simp [F3]) (by simp [F3]) ?_;simp only [Option.some.injEq] at hF;subst hF;refine AW.ret (hQ _ _ _ ?_ (AaB ?_)).1
   ·simp [Try.f72,F3]
   ·simp [F3]
  ·replace hF:=AaG h3 hF;have h3_:=h3;try simp at h3_
   by_cases h4 : (v4.length : Int)<1
   ·replace hF:=AaF h4 hF;have h4_:=h4;try simp at h4_
    have F4:=A5 F2 h3 h3_ h4 h4_;try simp [F4]
    and_intros <;> first | exact GK g | apply r | omega | (simp [maxLen,F4] <;> omega)
    refine WK [(3,AV.ptr 1 0),(39,AV.bool true)] [(1,.cells [Lz v3,Lz v4,Iz v5])] 2 (by simp [F4]) (by simp [F4]) ?_;refine CT (by simp [F4]) ?_;refine SQ [] [none] fun _ _ g r=>?_;try simp [F4]
    and_intros <;> first | exact GK g | apply r | omega | (simp [maxLen,F4] <;> omega)
    refine WK [(4,AV.bool false)] [] 2 (by simp [F4]) (by simp [F4]) ?_;simp only [Option.some.injEq] at hF;subst hF;refine AW.ret (hQ _ _ _ ?_ (AaB ?_)).1
    ·simp [Try.f72,F4]
    ·simp [F4]
   ·replace hF:=AaG h4 hF;have h4_:=h4;try simp at h4_
    by_cases h5 : 8<(v4.length : Int)
    ·replace hF:=AaF h5 hF;have h5_:=h5;try simp at h5_
     have F5:=A7 F2 h3 h3_ h4 h4_ h5 h5_;try simp [F5]
     and_intros <;> first | exact GK g | apply r | omega | (simp [maxLen,F5] <;> omega)
     refine WK [(3,AV.ptr 1 0),(39,AV.bool true)] [(1,.cells [Lz v3,Lz v4,Iz v5])] 2 (by simp [F5]) (by simp [F5]) ?_;refine CT (by simp [F5]) ?_;refine SQ [] [none] fun _ _ g r=>?_;try simp [F5]
     and_intros <;> first | exact GK g | apply r | omega | (simp [maxLen,F5] <;> omega)
     refine WK [(4,AV.bool false)] [] 2 (by simp [F5]) (by simp [F5]) ?_;simp only [Option.some.injEq] at hF;subst hF;refine AW.ret (hQ _ _ _ ?_ (AaB ?_)).1
     ·simp [Try.f72,F5]
     ·simp [F5]
    ·replace hF:=AaG h5 hF;have h5_:=h5;try simp at h5_
     by_cases h6 : v5<1
     ·replace hF:=AaF h6 hF;have h6_:=h6;try simp at h6_
      have F6:=A9 F2 h3 h3_ h4 h4_ h5 h5_ h6 h6_;try simp [F6]
      and_intros <;> first | exact GK g | apply r | omega | (simp [maxLen,F6] <;> omega)
      refine WK [(3,AV.ptr 1 0),(39,AV.bool true)] [(1,.cells [Lz v3,Lz v4,Iz v5])] 2 (by simp [F6]) (by simp [F6]) ?_;refine CT (by simp [F6]) ?_;refine SQ [] [none] fun _ _ g r=>?_;try simp [F6]
      and_intros <;> first | exact GK g | apply r | omega | (simp [maxLen,F6] <;> omega)
      refine WK [(4,AV.bool false)] [] 2 (by simp [F6]) (by simp [F6]) ?_;simp only [Option.some.injEq] at hF;subst hF;refine AW.ret (hQ _ _ _ ?_ (AaB ?_)).1
      ·simp [Try.f72,F6]
      ·simp [F6]
     ·replace hF:=AaG h6 hF;have h6_:=h6;try simp at h6_
      have F7:=A9 F2 h3 h3_ h4 h4_ h5 h5_ h6 h6_;try simp [F7]
      and_intros <;> first | exact GK g | apply r | omega | (simp [maxLen,F7] <;> omega)
      refine WK [(3,AV.ptr 1 0),(39,AV.bool (decide (3<v5)))] [(1,.cells [Lz v3,Lz v4,Iz v5])] 2 (by simp [F7]) (by simp [F7]) ?_;by_cases h7 : 3<v5
      ·replace hF:=AaF h7 hF;have h7_:=h7;try simp at h7_
       have F8:=A3 F7 h7 h7_;refine CT (by simp [F8] <;> omega) ?_;refine SQ [] [none] fun _ _ g r=>?_;try simp [F8]
       and_intros <;> first | exact GK g | apply r | omega | (simp [maxLen,F8] <;> omega)
       refine WK [(4,AV.bool false)] [] 2 (by simp [F8]) (by simp [F8]) ?_;simp only [Option.some.injEq] at hF;subst hF;refine AW.ret (hQ _ _ _ ?_ (AaB ?_)).1
       ·simp [Try.f72,F8]
       ·simp [F8]
      ·replace hF:=AaG h7 hF;have h7_:=h7;try simp at h7_
       have F9:=A3 F7 h7 h7_;refine CF (by simp [F9] <;> omega) ?_;refine AW.skip ?_;refine hK127 _ _ _ ?_;refine AW.seq fun K185 hK185=>?_;refine SQ [] [none] fun _ _ g r=>?_;try simp [F9]
       and_intros <;> first | exact GK g | apply r | omega | (simp [maxLen,F9] <;> omega)
       refine WK [(3,AV.ptr 1 0),(5,Iz 0)] [(1,.cells [Lz v3,Lz v4,Iz v5])] 2 (by simp [F9]) (by simp [F9]) ?_;refine AW.block ?_;refine RM h0 [(0,1)] [(3,AV.ptr 0 0),(5,Iz 0)] [(0,.cells [Lz v3,Lz v4,Iz v5])] 1 (by simp [F9]) (by simp [F9]) ?_;refine AW.loopF (α:=Int) (fun n v8=>AaU.L1 k v4 n v8=some v6) (fun v8=>[(3,AV.ptr 0 0),(5,Iz v8)]) (fun v8=>[(0,.cells [Lz v3,Lz v4,Iz v5])]) 1 k (0) hF (by simp [F9]) (by simp [F9]) (by simp) ?_;rintro (_|n1) v8 hF K222 hK222
       ·try dsimp only at hF
        rw [AaU.L1] at hF; cases hF
       try dsimp only at hF
       rw [AaU.L1] at hF;refine AW.seq fun K224 hK224=>?_;refine SQ [] [none,none,none,none,none] fun _ _ g r=>?_;try simp [F9]
       and_intros <;> first | exact GK g | apply r | omega | (simp [maxLen,F9] <;> omega)
       refine WK [(3,AV.ptr 0 0),(5,Iz v8),(44,AV.bool (decide (v8<(v4.length : Int))))] [(0,.cells [Lz v3,Lz v4,Iz v5])] 1 (by simp [F9]) (by simp [F9]) ?_;by_cases h8 : v8<(v4.length : Int)
       ·replace hF:=AaF h8 hF;have h8_:=h8;try simp at h8_
        have F10:=A3 F9 h8 h8_;refine CT (by simp [F10] <;> omega) ?_;refine AW.skip ?_;refine hK224 _ _ _ ?_;refine AW.midF (α:=Unit) (fun _=>AaU.J2 k v8 (fun v8_=>AaU.L1 k v4 n1 v8_)=some v6) (fun _=>[(3,AV.ptr 0 0),(5,Iz v8)]) (fun _=>[(0,.cells [Lz v3,Lz v4,Iz v5])]) 1 (fun K231 hK231=>?_) ?_
        ·refine AW.block ?_;refine SQ [] [none,none,none,none,none,none,none,some (53,false),some (53,false),some (53,false),some (53,false),some (53,false),some (53,false),none,none,some (61,false),some (61,false),some (61,false),some (64,true),some (64,true),some (64,true),some (64,true),some (64,true),some (64,true),some (64,true),some (64,true),some (64,true),some (64,true),some (64,true),some (64,true),some (61,false),none] fun _ _ g r=>?_;obtain ⟨v9,h9,h10,h11,hF⟩:=Aab hF;have h11_:=Aaw h11;try simp at h11_
         have h10_:=h10;try simp at h10_
         by_cases h12 : v9<1
         ·replace hF:=AaF h12 hF;have h12_:=h12;try simp at h12_
          have F11:=A8 F10 h9 h10 h11 h11_ h10_ h12 h12_;try simp [F11]
          and_intros <;> first | exact GK g | apply r | omega | (simp [maxLen,F11] <;> omega)
          refine WK [(3,AV.ptr 0 0),(5,Iz v8),(78,AV.bool true)] [(0,.cells [Lz v3,Lz v4,Iz v5])] 1 (by simp [F11]) (by simp [F11]) ?_;refine CT (by simp [F11]) ?_;refine SQ [] [none] fun _ _ g r=>?_;try simp [F11]
          and_intros <;> first | exact GK g | apply r | omega | (simp [maxLen,F11] <;> omega)
          refine WK [(4,AV.bool false)] [] 1 (by simp [F11]) (by simp [F11]) ?_;simp only [Option.some.injEq] at hF;subst hF;refine AW.ret (hQ _ _ _ ?_ (AaB ?_)).1
          ·simp [Try.f72,F11]
          ·simp [F11]
         ·replace hF:=AaG h12 hF;have h12_:=h12;try simp at h12_
          by_cases h13 : 1000<v9
          ·replace hF:=AaF h13 hF;have h13_:=h13;try simp at h13_
           have F12:=A9 F10 h9 h10 h11 h11_ h10_ h12 h12_ (A2 h13 h13_);try simp [F12]
           and_intros <;> first | exact GK g | apply r | omega | (simp [maxLen,F12] <;> omega)
           refine WK [(3,AV.ptr 0 0),(5,Iz v8),(78,AV.bool true)] [(0,.cells [Lz v3,Lz v4,Iz v5])] 1 (by simp [F12]) (by simp [F12]) ?_;refine CT (by simp [F12]) ?_;refine SQ [] [none] fun _ _ g r=>?_;try simp [F12]
           and_intros <;> first | exact GK g | apply r | omega | (simp [maxLen,F12] <;> omega)
           refine WK [(4,AV.bool false)] [] 1 (by simp [F12]) (by simp [F12]) ?_;simp only [Option.some.injEq] at hF;subst hF;refine AW.ret (hQ _ _ _ ?_ (AaB ?_)).1
           ·simp [Try.f72,F12]
           ·simp [F12]
          ·replace hF:=AaG h13 hF;have h13_:=h13;try simp at h13_
           by_cases h14 : 0<v8
           ·replace hF:=AaF h14 hF;have h14_:=h14;try simp at h14_
            obtain ⟨v10,h15,h16,h17,hF⟩:=Aab hF;have h17_:=Aaw h17;try simp at h17_
            have h16_:=h16;try simp at h16_
            have F13:=A9 F10 h9 h10 h11 h11_ h10_ h12 h12_ (A9 h13 h13_ h14 h14_ h15 h16 h17 h17_ h16_);try simp [F13]
            and_intros <;> first | exact GK g | apply r | omega | (simp [maxLen,F13] <;> omega)
            refine WK [(3,AV.ptr 0 0),(5,Iz v8),(78,AV.bool (decide (v10<v9)))] [(0,.cells [Lz v3,Lz v4,Iz v5])] 1 (by simp [F13]) (by simp [F13]) ?_;by_cases h18 : v10<v9
            ·replace hF:=AaF h18 hF;have h18_:=h18;try simp at h18_
             have F14:=A3 F13 h18 h18_;refine CT (by simp [F14] <;> omega) ?_;refine SQ [] [none] fun _ _ g r=>?_;try simp [F14]
             and_intros <;> first | exact GK g | apply r | omega | (simp [maxLen,F14] <;> omega)
             refine WK [(4,AV.bool false)] [] 1 (by simp [F14]) (by simp [F14]) ?_;simp only [Option.some.injEq] at hF;subst hF;refine AW.ret (hQ _ _ _ ?_ (AaB ?_)).1
             ·simp [Try.f72,F14]
             ·simp [F14]
            ·replace hF:=AaG h18 hF;have h18_:=h18;try simp at h18_
             have F15:=A3 F13 h18 h18_;refine CF (by simp [F15] <;> omega) ?_;refine AW.skip ?_;refine hK231 _ _ _ ?_;exact JN (()) hF (by simp [F15]) (by simp [F15])
           ·replace hF:=AaG h14 hF;have h14_:=h14;try simp at h14_
            have F16:=A9 F10 h9 h10 h11 h11_ h10_ h12 h12_ (A4 h13 h13_ h14 h14_);try simp [F16]
            and_intros <;> first | exact GK g | apply r | omega | (simp [maxLen,F16] <;> omega)
            refine WK [(3,AV.ptr 0 0),(5,Iz v8),(78,AV.bool false)] [(0,.cells [Lz v3,Lz v4,Iz v5])] 1 (by simp [F16]) (by simp [F16]) ?_;refine CF (by simp [F16]) ?_;refine AW.skip ?_;refine hK231 _ _ _ ?_;exact JN (()) hF (by simp [F16]) (by simp [F16])
        ·rintro ⟨⟩ hF
         try dsimp only at hF
         unfold AaU.J2 at hF;refine RG [] [none,none,none] fun _ _ g r=>?_;try simp [F10]
         and_intros <;> first | exact GK g | apply r | omega | (simp [maxLen,F10] <;> omega)
         refine hK222 _ _ _ ?_;exact NX (k':=n1) (IntKind.wrap .i64 (v8+1)) hF (by simp [F10]) (by simp [F10])
       ·replace hF:=AaG h8 hF;have h8_:=h8;try simp at h8_
        have F17:=A3 F9 h8 h8_;refine CF (by simp [F17] <;> omega) ?_;refine AW.exit ?_;try simp
        refine hK185 _ _ _ ?_;refine SQ [] [none] fun _ _ g r=>?_;try simp [F17]
        and_intros <;> first | exact GK g | apply r | omega | (simp [maxLen,F17] <;> omega)
        refine WK [(4,AV.bool true)] [] 1 (by simp [F17]) (by simp [F17]) ?_;simp only [Option.some.injEq] at hF;subst hF;refine AW.ret (hQ _ _ _ ?_ (AaB ?_)).1
        ·simp [Try.f72,F17]
        ·simp [F17]
theorem AfK (k : Nat) (v0 : Int) (v1 : (List Aam)) (v2 : (List Int)) (v3 : (List Int)) (v4 : (List Int)) (v5 : Int) (v6 : Int) (hF : AcE k v0 v1 v2 v3 v4 v5=some v6) :
 Aa0 Try.prog 38 [AV.agg [AV.int .i64 v0,Q0 v1,AV.lst false false (List.map (AV.int .i64) v2)],AV.agg [AV.lst false false (List.map (AV.int .i64) v3),AV.lst false false (List.map (AV.int .i64) v4),AV.int .i64 v5]] [] (AV.int .i64 v6) []:=by
 unfold AcE at hF;refine EN Try.func38 ?_;intro c0 w0 Q h0 hQ
 refine WK [(0,AV.agg [Iz v0,Q0 v1,Lz v2]),(1,AV.agg [Lz v3,Lz v4,Iz v5])] [] 0 (by simp) (by simp) ?_;refine SQ [] [none,none,none] fun _ _ g r=>?_;try simp
 and_intros <;> first | exact GK g | apply r | omega | (simp [maxLen] <;> omega)
 refine WK [(2,AV.ptr 0 0),(3,AV.ptr 1 0)] [(0,.cells [Iz v0,Q0 v1,Lz v2]),(1,.cells [Lz v3,Lz v4,Iz v5])] 2 (by simp) (by simp) ?_;refine AW.seq fun K16 hK16=>?_;refine SQ [] [none,none,none] fun _ _ g r=>?_;try simp
 and_intros
 try any_goals first | omega | (simp [maxLen] <;> omega)
 obtain ⟨v7,h1,hF⟩:=AaD hF;refine AC (AfL k _ _ _ _ h1) (.cons (.same (by simp)) .nil) ?_;try simp
 and_intros <;> first | exact GK g | apply r | omega | (simp [maxLen] <;> omega)
 refine WK [(2,AV.ptr 0 0),(3,AV.ptr 1 0),(7,AV.bool (v7 !=0))] [(0,.cells [Iz v0,Q0 v1,Lz v2]),(1,.cells [Lz v3,Lz v4,Iz v5])] 2 (by simp) (by simp) ?_;by_cases h2 : v7≠0
 ·replace hF:=AaF h2 hF;have h2_:=Aa7 h2;have h2__:=Aa9 h2;have F1:=A3 h2 h2_ h2__;refine CT (by simp [F1] <;> omega) ?_;refine SQ [] [none] fun _ _ g r=>?_;try simp [F1]
  and_intros <;> first | exact GK g | apply r | omega | (simp [maxLen,F1] <;> omega)
  refine WK [(4,Iz 14)] [] 2 (by simp [F1]) (by simp [F1]) ?_;simp only [Option.some.injEq] at hF;subst hF;refine AW.ret (hQ _ _ _ ?_ (AaB ?_)).1
  ·simp [Try.f38,F1]
  ·simp [F1]
 ·replace hF:=AaG h2 hF;have h2q : v7=0:=Classical.not_not.1 h2;have h2_:=AbB h2q;have h2__:=AbA h2q;have F2:=A3 h2_ h2__ h2q;refine CF (by simp [F2] <;> omega) ?_;refine AW.skip ?_;refine hK16 _ _ _ ?_;refine AW.seq fun K21 hK21=>?_;refine SQ [] [none,none,none,none] fun _ _ g r=>?_;try simp [F2]
  and_intros
  try any_goals first | omega | (simp [maxLen,F2] <;> omega)
  obtain ⟨v8,h3,hF⟩:=AaD hF;refine AC (Aen k _ _ _ _ _ _ _ h3) (.cons (.same (by simp [F2])) (.cons (.same (by simp [F2])) .nil)) ?_;try simp [F2]
  and_intros <;> first | exact GK g | apply r | omega | (simp [maxLen,F2] <;> omega)
  refine WK [(11,AV.bool (!v8))] [] 2 (by simp [F2]) (by simp [F2]) ?_;by_cases h4 : (!v8)=true
  ·replace hF:=AaF h4 hF;have h4_:=h4;try simp at h4_
   have F3:=A3 F2 h4 h4_;refine CT (by simp [F3] <;> omega) ?_;refine SQ [] [none] fun _ _ g r=>?_;try simp [F3]
   and_intros <;> first | exact GK g | apply r | omega | (simp [maxLen,F3] <;> omega)
   refine WK [(4,Iz 15)] [] 2 (by simp [F3]) (by simp [F3]) ?_;simp only [Option.some.injEq] at hF;subst hF;refine AW.ret (hQ _ _ _ ?_ (AaB ?_)).1
   ·simp [Try.f38,F3]
   ·simp [F3]
  ·replace hF:=AaG h4 hF;have h4_:=h4;try simp at h4_
   have F4:=A3 F2 h4 h4_;refine CF (by simp [F4] <;> omega) ?_;refine AW.skip ?_;refine hK21 _ _ _ ?_;refine SQ [] [none] fun _ _ g r=>?_;try simp [F4]
   and_intros <;> first | exact GK g | apply r | omega | (simp [maxLen,F4] <;> omega)
   refine WK [(4,Iz 0)] [] 2 (by simp [F4]) (by simp [F4]) ?_;simp only [Option.some.injEq] at hF;subst hF;refine AW.ret (hQ _ _ _ ?_ (AaB ?_)).1
   ·simp [Try.f38,F4]
   ·simp [F4]
theorem Acc (k : Nat) (v0 : (List Int)) (v1 : (List Int)) (v2 : (List Int)) (v3 : Int) (v4 : Int) (v5 : Int) (v6 : Int) (v7 : Int) (hF : Abd k v0 v1 v2 v3 v4 v5 v6=some v7) :
 Aa0 Try.prog 13 [AV.agg [AV.lst false false (List.map (AV.int .i64) v0),AV.lst false false (List.map (AV.int .i64) v1),AV.lst false false (List.map (AV.int .i64) v2),AV.int .i64 v3,AV.int .i64 v4,AV.int .i64 v5,AV.int .i64 v6]] [] (AV.int .i64 v7) []:=by
 unfold Abd at hF;refine EN Try.func13 ?_;intro c0 w0 Q h0 hQ
 refine WK [(0,AV.agg [Lz v0,Lz v1,Lz v2,Iz v3,Iz v4,Iz v5,Iz v6])] [] 0 (by simp) (by simp) ?_;refine SQ [] [none,none] fun _ _ g r=>?_;try simp
 and_intros <;> first | exact GK g | apply r | omega | (simp [maxLen] <;> omega)
 refine WK [(1,AV.ptr 0 0)] [(0,.cells [Lz v0,Lz v1,Lz v2,Iz v3,Iz v4,Iz v5,Iz v6])] 1 (by simp) (by simp) ?_;refine AW.seq fun K33 hK33=>?_;refine SQ [] [none,none,none,none] fun _ _ g r=>?_;try simp
 and_intros
 try any_goals first | omega | (simp [maxLen] <;> omega)
 obtain ⟨v8,h1,hF⟩:=AaD hF;refine AC (AfJ k _ _ h1) (.cons (.same (by simp)) .nil) ?_;try simp
 and_intros <;> first | exact GK g | apply r | omega | (simp [maxLen] <;> omega)
 refine WK [(1,AV.ptr 0 0),(7,AV.bool (!v8))] [(0,.cells [Lz v0,Lz v1,Lz v2,Iz v3,Iz v4,Iz v5,Iz v6])] 1 (by simp) (by simp) ?_;by_cases h2 : (!v8)=true
 ·replace hF:=AaF h2 hF;have h2_:=h2;try simp at h2_
  refine CT (by simp [h2,h2_] <;> omega) ?_;refine SQ [] [none] fun _ _ g r=>?_;try simp [h2,h2_]
  and_intros <;> first | exact GK g | apply r | omega | (simp [h2,h2_,maxLen] <;> omega)
  refine WK [(2,Iz 43)] [] 1 (by simp [h2,h2_]) (by simp [h2,h2_]) ?_;simp only [Option.some.injEq] at hF;subst hF;refine AW.ret (hQ _ _ _ ?_ (AaB ?_)).1
  ·simp [Try.f13,h2,h2_]
  ·simp [h2,h2_]
 ·replace hF:=AaG h2 hF;have h2_:=h2;try simp at h2_
  refine CF (by simp [h2,h2_] <;> omega) ?_;refine AW.skip ?_;refine hK33 _ _ _ ?_;refine AW.seq fun K39 hK39=>?_;refine SQ [] [none,none,none,none,none] fun _ _ g r=>?_;try simp [h2,h2_]
  and_intros
  try any_goals first | omega | (simp [h2,h2_,maxLen] <;> omega)
  obtain ⟨v9,h3,hF⟩:=AaD hF;refine AC (AfK k _ _ _ _ _ _ _ h3) (.cons (.agg (.cons (.same (by simp [h2,h2_])) (.cons (Coe.fl (by simp [h2,h2_])) (.cons (Coe.fl (by simp [h2,h2_])) .nil)))) (.cons (.same (by simp [h2,h2_])) .nil)) ?_;try simp [h2,h2_]
  and_intros <;> first | exact GK g | apply r | omega | (simp [h2,h2_,maxLen] <;> omega)
  refine WK [(1,AV.ptr 0 0),(3,Iz v9)] [(0,.cells [Lz v0,Lz v1,Lz v2,Iz v3,Iz v4,Iz v5,Iz v6])] 1 (by simp [h2,h2_]) (by simp [h2,h2_]) ?_;refine SQ [] [none,none] fun _ _ g r=>?_;try simp [h2,h2_]
  and_intros <;> first | exact GK g | apply r | omega | (simp [h2,h2_,maxLen] <;> omega)
  refine WK [(1,AV.ptr 0 0),(3,Iz v9),(13,AV.bool (v9 !=0))] [(0,.cells [Lz v0,Lz v1,Lz v2,Iz v3,Iz v4,Iz v5,Iz v6])] 1 (by simp [h2,h2_]) (by simp [h2,h2_]) ?_;by_cases h4 : v9≠0
  ·replace hF:=AaF h4 hF;have h4_:=Aa7 h4;have h4__:=Aa9 h4;have F1:=A5 h2 h2_ h4 h4_ h4__;refine CT (by simp [F1] <;> omega) ?_;refine SQ [] [none,none] fun _ _ g r=>?_;try simp [F1]
   and_intros <;> first | exact GK g | apply r | omega | (simp [maxLen,F1] <;> omega)
   refine WK [(2,Iz v9)] [] 1 (by simp [F1]) (by simp [F1]) ?_;simp only [Option.some.injEq] at hF;subst hF;refine AW.ret (hQ _ _ _ ?_ (AaB ?_)).1
   ·simp [Try.f13,F1]
   ·simp [F1]
  ·replace hF:=AaG h4 hF;have h4q : v9=0:=Classical.not_not.1 h4;have h4_:=AbB h4q;have h4__:=AbA h4q;refine CF (by simp [h2,h2_,h4_,h4__,h4q] <;> omega) ?_;refine AW.skip ?_;refine hK39 _ _ _ ?_;refine AW.seq fun K50 hK50=>?_;refine SQ [] [none,none,none,none,some (18,false),some (18,false),some (18,false),none,none,some (23,false),some (23,false),some (23,false),none,none,some (28,false),some (28,false),some (28,false),none,none,some (33,false),some (33,false),some (33,false),none,none,some (38,false),some (38,false),some (38,false),none] fun _ _ g r=>?_;by_cases h5 : v4<1
   ·replace hF:=AaF h5 hF;have h5_:=h5;try simp at h5_
    have F2:=A7 h2 h2_ h4_ h4__ h4q h5 h5_;try simp [F2]
    and_intros <;> first | exact GK g | apply r | omega | (simp [maxLen,F2] <;> omega)
    refine WK [(42,AV.bool true)] [] 1 (by simp [F2]) (by simp [F2]) ?_;refine CT (by simp [F2]) ?_;refine SQ [] [none] fun _ _ g r=>?_;try simp [F2]
    and_intros <;> first | exact GK g | apply r | omega | (simp [maxLen,F2] <;> omega)
    refine WK [(2,Iz 40)] [] 1 (by simp [F2]) (by simp [F2]) ?_;simp only [Option.some.injEq] at hF;subst hF;refine AW.ret (hQ _ _ _ ?_ (AaB ?_)).1
    ·simp [Try.f13,F2]
    ·simp [F2]
   ·replace hF:=AaG h5 hF;have h5_:=h5;try simp at h5_
    by_cases h6 : 9<v4
    ·replace hF:=AaF h6 hF;have h6_:=h6;try simp at h6_
     have F3:=A9 h2 h2_ h4_ h4__ h4q h5 h5_ h6 h6_;try simp [F3]
     and_intros <;> first | exact GK g | apply r | omega | (simp [maxLen,F3] <;> omega)
     refine WK [(42,AV.bool true)] [] 1 (by simp [F3]) (by simp [F3]) ?_;refine CT (by simp [F3]) ?_;refine SQ [] [none] fun _ _ g r=>?_;try simp [F3]
     and_intros <;> first | exact GK g | apply r | omega | (simp [maxLen,F3] <;> omega)
     refine WK [(2,Iz 40)] [] 1 (by simp [F3]) (by simp [F3]) ?_;simp only [Option.some.injEq] at hF;subst hF;refine AW.ret (hQ _ _ _ ?_ (AaB ?_)).1
     ·simp [Try.f13,F3]
     ·simp [F3]
    ·replace hF:=AaG h6 hF;have h6_:=h6;try simp at h6_
     by_cases h7 : v5<1
     ·replace hF:=AaF h7 hF;have h7_:=h7;try simp at h7_
      have F4:=A9 h2 h2_ h4_ h4__ h4q h5 h5_ h6 (A3 h6_ h7 h7_);try simp [F4]
      and_intros <;> first | exact GK g | apply r | omega | (simp [maxLen,F4] <;> omega)
      refine WK [(42,AV.bool true)] [] 1 (by simp [F4]) (by simp [F4]) ?_;refine CT (by simp [F4]) ?_;refine SQ [] [none] fun _ _ g r=>?_;try simp [F4]
      and_intros <;> first | exact GK g | apply r | omega | (simp [maxLen,F4] <;> omega)
      refine WK [(2,Iz 40)] [] 1 (by simp [F4]) (by simp [F4]) ?_;simp only [Option.some.injEq] at hF;subst hF;refine AW.ret (hQ _ _ _ ?_ (AaB ?_)).1
      ·simp [Try.f13,F4]
      ·simp [F4]
     ·replace hF:=AaG h7 hF;have h7_:=h7;try simp at h7_
      by_cases h8 : 1000000<v5
      ·replace hF:=AaF h8 hF;have h8_:=h8;try simp at h8_
       have F5:=A9 h2 h2_ h4_ h4__ h4q h5 h5_ h6 (A5 h6_ h7 h7_ h8 h8_);try simp [F5]
       and_intros <;> first | exact GK g | apply r | omega | (simp [maxLen,F5] <;> omega)
       refine WK [(42,AV.bool true)] [] 1 (by simp [F5]) (by simp [F5]) ?_;refine CT (by simp [F5]) ?_;refine SQ [] [none] fun _ _ g r=>?_;try simp [F5]
       and_intros <;> first | exact GK g | apply r | omega | (simp [maxLen,F5] <;> omega)
       refine WK [(2,Iz 40)] [] 1 (by simp [F5]) (by simp [F5]) ?_;simp only [Option.some.injEq] at hF;subst hF;refine AW.ret (hQ _ _ _ ?_ (AaB ?_)).1
       ·simp [Try.f13,F5]
       ·simp [F5]
      ·replace hF:=AaG h8 hF;have h8_:=h8;try simp at h8_
       by_cases h9 : v6<0
       ·replace hF:=AaF h9 hF;have h9_:=h9;try simp at h9_
        have F6:=A9 h2 h2_ h4_ h4__ h4q h5 h5_ h6 (A7 h6_ h7 h7_ h8 h8_ h9 h9_);try simp [F6]
        and_intros <;> first | exact GK g | apply r | omega | (simp [maxLen,F6] <;> omega)
        refine WK [(42,AV.bool true)] [] 1 (by simp [F6]) (by simp [F6]) ?_;refine CT (by simp [F6]) ?_;refine SQ [] [none] fun _ _ g r=>?_;try simp [F6]
        and_intros <;> first | exact GK g | apply r | omega | (simp [maxLen,F6] <;> omega)
        refine WK [(2,Iz 40)] [] 1 (by simp [F6]) (by simp [F6]) ?_;simp only [Option.some.injEq] at hF;subst hF;refine AW.ret (hQ _ _ _ ?_ (AaB ?_)).1
        ·simp [Try.f13,F6]
        ·simp [F6]
       ·replace hF:=AaG h9 hF;have h9_:=h9;try simp at h9_
        have F7:=A9 h2 h2_ h4_ h4__ h4q h5 h5_ h6 (A7 h6_ h7 h7_ h8 h8_ h9 h9_);try simp [F7]
        and_intros <;> first | exact GK g | apply r | omega | (simp [maxLen,F7] <;> omega)
        refine WK [(42,AV.bool (decide (64<v6)))] [] 1 (by simp [F7]) (by simp [F7]) ?_;by_cases h10 : 64<v6
        ·replace hF:=AaF h10 hF;have h10_:=h10;try simp at h10_
         have F8:=A3 F7 h10 h10_;refine CT (by simp [F8] <;> omega) ?_;refine SQ [] [none] fun _ _ g r=>?_;try simp [F8]
         and_intros <;> first | exact GK g | apply r | omega | (simp [maxLen,F8] <;> omega)
         refine WK [(2,Iz 40)] [] 1 (by simp [F8]) (by simp [F8]) ?_;simp only [Option.some.injEq] at hF;subst hF;refine AW.ret (hQ _ _ _ ?_ (AaB ?_)).1
         ·simp [Try.f13,F8]
         ·simp [F8]
        ·replace hF:=AaG h10 hF;have h10_:=h10;try simp at h10_
         have F9:=A3 F7 h10 h10_;refine CF (by simp [F9] <;> omega) ?_;refine AW.skip ?_;refine hK50 _ _ _ ?_;refine SQ [] [none] fun _ _ g r=>?_;try simp [F9]
         and_intros <;> first | exact GK g | apply r | omega | (simp [maxLen,F9] <;> omega)
         refine WK [(2,Iz 0)] [] 1 (by simp [F9]) (by simp [F9]) ?_;simp only [Option.some.injEq] at hF;subst hF;refine AW.ret (hQ _ _ _ ?_ (AaB ?_)).1
         ·simp [Try.f13,F9]
         ·simp [F9]
theorem AdM (k : Nat) (v0 : (List Int)) (v1 : (List Int)) (v2 : (List Int)) (v3 : (List Int)) (v4 : Int) (v5 : Int) (v6 : Int) (v7 : Int) (v8 : Bool) (hF : AbV k v0 v1 v2 v3 v4 v5 v6 v7=some v8) :
 Aa0 Try.prog 3 [AV.lst false false (List.map (AV.int .i64) v0),AV.agg [AV.lst false false (List.map (AV.int .i64) v1),AV.lst false false (List.map (AV.int .i64) v2),AV.lst false false (List.map (AV.int .i64) v3),AV.int .i64 v4,AV.int .i64 v5,AV.int .i64 v6,AV.int .i64 v7]] [] (AV.bool v8) []:=by
 unfold AbV at hF;refine EN Try.func3 ?_;intro c0 w0 Q h0 hQ
 refine WK [(0,Lz v0),(1,AV.agg [Lz v1,Lz v2,Lz v3,Iz v4,Iz v5,Iz v6,Iz v7])] [] 0 (by simp) (by simp) ?_;refine SQ [] [none,none] fun _ _ g r=>?_;try simp
 and_intros <;> first | exact GK g | apply r | omega | (simp [maxLen] <;> omega)
 refine WK [(0,Lz v0),(3,AV.ptr 0 0)] [(0,.cells [Lz v1,Lz v2,Lz v3,Iz v4,Iz v5,Iz v6,Iz v7])] 1 (by simp) (by simp) ?_;refine AW.seq fun K18 hK18=>?_;refine SQ [] [none,none,none,none,some (12,false),some (12,false),some (12,false),some (12,false),some (12,false),some (12,false),some (12,false),some (12,false),some (12,false),some (12,false),some (12,false),some (12,false),some (12,false),some (12,false),none] fun _ _ g r=>?_;try simp
 and_intros
 try any_goals first | omega | (simp [maxLen] <;> omega)
 obtain ⟨v9,h1,hF⟩:=AaD hF;refine AC (Afk k _ _ h1) (.cons (.same (by simp)) .nil) ?_;by_cases h2 : (!v9)=true
 ·replace hF:=AaF h2 hF;have h2_:=h2;try simp at h2_
  try simp [h2,h2_]
  and_intros <;> first | exact GK g | apply r | omega | (simp [h2,h2_,maxLen] <;> omega)
  refine WK [(0,Lz v0),(3,AV.ptr 0 0),(27,AV.bool true)] [(0,.cells [Lz v1,Lz v2,Lz v3,Iz v4,Iz v5,Iz v6,Iz v7])] 1 (by simp [h2,h2_]) (by simp [h2,h2_]) ?_;refine CT (by simp [h2,h2_]) ?_;refine SQ [] [none,none] fun _ _ g r=>?_;try simp [h2,h2_]
  and_intros
  try any_goals first | omega | (simp [h2,h2_,maxLen] <;> omega)
  obtain ⟨v10,h3,hF⟩:=AaD hF;refine AC (Ace k _ h3) .nil ?_;try simp [h2,h2_]
  and_intros <;> first | exact GK g | apply r | omega | (simp [h2,h2_,maxLen] <;> omega)
  refine WK [(4,AV.bool v10)] [] 1 (by simp [h2,h2_]) (by simp [h2,h2_]) ?_;simp only [Option.some.injEq] at hF;subst hF;refine AW.ret (hQ _ _ _ ?_ (AaB ?_)).1
  ·simp [Try.f3,h2,h2_]
  ·simp [h2,h2_]
 ·replace hF:=AaG h2 hF;have h2_:=h2;try simp at h2_
  try simp [h2,h2_]
  and_intros <;> first | exact GK g | apply r | omega | (simp [h2,h2_,maxLen] <;> omega)
  refine WK [(0,Lz v0),(3,AV.ptr 0 0),(27,AV.bool (decide (300<IntKind.wrap .i64 (IntKind.wrap .i64 ((v1.length : Int)+(v2.length : Int))+(v3.length : Int)))))] [(0,.cells [Lz v1,Lz v2,Lz v3,Iz v4,Iz v5,Iz v6,Iz v7])] 1 (by simp [h2,h2_]) (by simp [h2,h2_]) ?_;by_cases h4 : 300<IntKind.wrap .i64 (IntKind.wrap .i64 ((v1.length : Int)+(v2.length : Int))+(v3.length : Int))
  ·replace hF:=AaF h4 hF;have h4_:=h4;try simp at h4_
   have F1:=A4 h2 h2_ h4 h4_;refine CT (by simp [F1] <;> omega) ?_;refine SQ [] [none,none] fun _ _ g r=>?_;try simp [F1]
   and_intros
   try any_goals first | omega | (simp [maxLen,F1] <;> omega)
   obtain ⟨v11,h5,hF⟩:=AaD hF;refine AC (Ace k _ h5) .nil ?_;try simp [F1]
   and_intros <;> first | exact GK g | apply r | omega | (simp [maxLen,F1] <;> omega)
   refine WK [(4,AV.bool v11)] [] 1 (by simp [F1]) (by simp [F1]) ?_;simp only [Option.some.injEq] at hF;subst hF;refine AW.ret (hQ _ _ _ ?_ (AaB ?_)).1
   ·simp [Try.f3,F1]
   ·simp [F1]
  ·replace hF:=AaG h4 hF;have h4_:=h4;try simp at h4_
   have F2:=A4 h2 h2_ h4 h4_;refine CF (by simp [F2] <;> omega) ?_;refine AW.skip ?_;refine hK18 _ _ _ ?_;refine SQ [] [none,none,none] fun _ _ g r=>?_;try simp [F2]
   and_intros
   try any_goals first | omega | (simp [maxLen,F2] <;> omega)
   obtain ⟨v12,v13,h6,hF⟩:=Aak hF;refine AC (AgQ k _ _ _ h6) (.cons (.same (by simp [F2])) .nil) ?_;try simp [F2]
   and_intros <;> first | exact GK g | apply r | omega | (simp [maxLen,F2] <;> omega)
   refine WK [(3,AV.ptr 0 0),(5,AV.ptr 1 0)] [(0,.cells [Lz v1,Lz v2,Lz v3,Iz v4,Iz v5,Iz v6,Iz v7]),(1,.cells [Lz v12,Iz v13])] 2 (by simp [F2]) (by simp [F2]) ?_;refine SQ [] [none,none,none,none] fun _ _ g r=>?_;try simp [F2]
   and_intros
   try any_goals first | omega | (simp [maxLen,F2] <;> omega)
   obtain ⟨v14,v15,v16,v17,v18,v19,v20,v21,h7,hF⟩:=Aej hF;refine Aa5 (Afj k _ _ _ _ _ _ _ _ _ _ h7) (by simp) [1] [] [1] rfl (.cons (.same (by simp [F2])) .nil) (by simp [F2]) (by decide) (by simp) (by simp) (.inl rfl) (by simp) (by simp) ?_;try simp [F2]
   and_intros <;> first | exact GK g | apply r | omega | (simp [maxLen,F2] <;> omega)
   refine WK [(3,AV.ptr 0 0),(5,AV.ptr 1 0),(6,AV.ptr 3 0)] [(0,.cells [Lz v1,Lz v2,Lz v3,Iz v4,Iz v5,Iz v6,Iz v7]),(1,.cells [Lz v12,Iz v21]),(2,Ci v16),(3,.cells [Lz v14,Lz v15,AV.slc 2 0 1 v16.length false,Iz v17,Iz v18,Iz v19,Iz v20])] 4 (by simp [F2]) (by simp [F2]) ?_;refine AW.frz 2 (o:=Ci v16) (by simp [F2]) rfl [] [(3,.cells [Lz v14,Lz v15,Lz v16,Iz v17,Iz v18,Iz v19,Iz v20])] trivial ⟨⟨by simp,AaQ.cells [Lz v14,Lz v15,AV.slc 2 0 1 v16.length false,Iz v17,Iz v18,Iz v19,Iz v20],by simp [F2],(.mk (.cons (.same _) (.cons (.same _) (.cons (.l (by simp) (by simp) (by simp) (by simp)) (.cons (.same _) (.cons (.same _) (.cons (.same _) (.cons (.same _) .nil))))))))⟩,trivial⟩ ?_;refine WK [(3,AV.ptr 0 0),(5,AV.ptr 1 0),(6,AV.ptr 3 0)] [(0,.cells [Lz v1,Lz v2,Lz v3,Iz v4,Iz v5,Iz v6,Iz v7]),(1,.cells [Lz v12,Iz v21]),(3,.cells [Lz v14,Lz v15,Lz v16,Iz v17,Iz v18,Iz v19,Iz v20])] 4 (by simp [F2]) (by simp [F2]) ?_;refine SQ [] [none,none,none,none,none] fun _ _ g r=>?_;try simp [F2]
   and_intros
   try any_goals first | omega | (simp [maxLen,F2] <;> omega)
   obtain ⟨v22,v23,v24,v25,v26,v27,v28,v29,h8,hF⟩:=Aej hF;refine Aa5 (Aey k _ _ _ _ _ _ _ _ _ _ _ _ _ _ _ _ _ h8) (by simp) [1] [] [1] rfl (.cons (.same (by simp [F2])) (.cons (.same (by simp [F2])) .nil)) (by simp [F2]) (by decide) (by simp) (by simp) (.inl rfl) (by simp) (by simp) ?_;try simp [F2]
   and_intros <;> first | exact GK g | apply r | omega | (simp [maxLen,F2] <;> omega)
   refine WK [(3,AV.ptr 0 0),(5,AV.ptr 1 0),(6,AV.ptr 3 0),(7,AV.ptr 4 0)] [(0,.cells [Lz v1,Lz v2,Lz v3,Iz v4,Iz v5,Iz v6,Iz v7]),(1,.cells [Lz v12,Iz v29]),(3,.cells [Lz v14,Lz v15,Lz v16,Iz v17,Iz v18,Iz v19,Iz v20]),(4,.cells [Lz v22,Lz v23,Lz v24,Iz v25,Iz v26,Iz v27,Iz v28])] 5 (by simp [F2]) (by simp [F2]) ?_;refine SQ [] [none,none,none,none,none] fun _ _ g r=>?_;try simp [F2]
   and_intros
   try any_goals first | omega | (simp [maxLen,F2] <;> omega)
   obtain ⟨v30,v31,v32,v33,v34,v35,v36,v37,h9,hF⟩:=Aej hF;refine Aa5 (Aey k _ _ _ _ _ _ _ _ _ _ _ _ _ _ _ _ _ h9) (by simp) [1] [] [1] rfl (.cons (.same (by simp [F2])) (.cons (.same (by simp [F2])) .nil)) (by simp [F2]) (by decide) (by simp) (by simp) (.inl rfl) (by simp) (by simp) ?_;try simp [F2]
   and_intros <;> first | exact GK g | apply r | omega | (simp [maxLen,F2] <;> omega)
   refine WK [(3,AV.ptr 0 0),(6,AV.ptr 3 0),(7,AV.ptr 4 0),(8,AV.ptr 5 0)] [(0,.cells [Lz v1,Lz v2,Lz v3,Iz v4,Iz v5,Iz v6,Iz v7]),(3,.cells [Lz v14,Lz v15,Lz v16,Iz v17,Iz v18,Iz v19,Iz v20]),(4,.cells [Lz v22,Lz v23,Lz v24,Iz v25,Iz v26,Iz v27,Iz v28]),(5,.cells [Lz v30,Lz v31,Lz v32,Iz v33,Iz v34,Iz v35,Iz v36])] 6 (by simp [F2]) (by simp [F2]) ?_;refine SQ [] [none,none,none,none,some (42,true),some (42,true),some (42,true),some (42,true),some (42,true),none,none,some (49,true),some (49,true),some (49,true),some (49,true),some (49,true),none,none,some (56,true),some (56,true),some (56,true),some (56,true),some (56,true),none,none,some (63,true),none,none] fun _ _ g r=>?_;try simp [F2]
   and_intros
   try any_goals first | omega | (simp [maxLen,F2] <;> omega)
   obtain ⟨v38,h10,hF⟩:=AaD hF;refine AC (Abv k _ _ _ _ _ _ _ _ h10) (.cons (.same (by simp [F2])) .nil) ?_;by_cases h11 : v38=0
   ·replace hF:=AaF h11 hF;have h11q : v38=0:=h11;have h11_:=AbB h11q;have h11__:=AbA h11q;have F3:=A4 F2 h11_ h11__ h11q;try simp [F3]
    and_intros
    try any_goals first | omega | (simp [maxLen,F3] <;> omega)
    obtain ⟨v39,h12,hF⟩:=AaD hF;refine AC (Abv k _ _ _ _ _ _ _ _ h12) (.cons (.same (by simp [F3])) .nil) ?_;try simp [F3]
    and_intros
    try any_goals first | omega | (simp [maxLen,F3] <;> omega)
    obtain ⟨v40,h13,hF⟩:=AaD hF;refine AC (Acc k _ _ _ _ _ _ _ _ h13) (.cons (.same (by simp [F3])) .nil) ?_;by_cases h14 : v39=v40
    ·replace hF:=AaF h14 hF;have h14q : v39=v40:=h14;have h14_:=AbB h14q;have h14__:=AbA h14q;have F4:=A3 F3 h14_ h14__;try simp [F4]
     and_intros
     try any_goals first | omega | (simp [maxLen,F4] <;> omega)
     obtain ⟨v41,h15,hF⟩:=AaD hF;refine AC (Abv k _ _ _ _ _ _ _ _ h15) (.cons (.same (by simp [F4])) .nil) ?_;try simp [F4]
     and_intros
     try any_goals first | omega | (simp [maxLen,F4] <;> omega)
     obtain ⟨v42,h16,hF⟩:=AaD hF;refine AC (Acc k _ _ _ _ _ _ _ _ h16) (.cons (.same (by simp [F4])) .nil) ?_;by_cases h17 : v41=v42
     ·replace hF:=AaF h17 hF;have h17q : v41=v42:=h17;have h17_:=AbB h17q;have h17__:=AbA h17q;have F5:=A3 F4 h17_ h17__;try simp [F5]
      and_intros
      try any_goals first | omega | (simp [maxLen,F5] <;> omega)
      obtain ⟨v43,h18,hF⟩:=AaD hF;refine AC (Abv k _ _ _ _ _ _ _ _ h18) (.cons (.same (by simp [F5])) .nil) ?_;try simp [F5]
      and_intros
      try any_goals first | omega | (simp [maxLen,F5] <;> omega)
      obtain ⟨v44,h19,hF⟩:=AaD hF;refine AC (Acc k _ _ _ _ _ _ _ _ h19) (.cons (.same (by simp [F5])) .nil) ?_;by_cases h20 : v43=v44
      ·replace hF:=AaF h20 hF;have h20q : v43=v44:=h20;have h20_:=AbB h20q;have h20__:=AbA h20q;have F6:=A3 F5 h20_ h20__;try simp [F6]
       and_intros
       try any_goals first | omega | (simp [maxLen,F6] <;> omega)
       obtain ⟨v45,h21,hF⟩:=AaD hF;refine AC (Ace k _ h21) .nil ?_;try simp [F6]
       and_intros <;> first | exact GK g | apply r | omega | (simp [maxLen,F6] <;> omega)
       refine WK [(4,AV.bool v45)] [] 6 (by simp [F6]) (by simp [F6]) ?_;simp only [Option.some.injEq] at hF;subst hF;refine AW.ret (hQ _ _ _ ?_ (AaB ?_)).1
       ·simp [Try.f3,F6]
       ·simp [F6]
      ·replace hF:=AaG h20 hF;have h20_:=Aa7 h20;have h20__:=Aa9 h20;have F7:=A4 F5 h20 h20_ h20__;try simp [F7]
       and_intros <;> first | exact GK g | apply r | omega | (simp [maxLen,F7] <;> omega)
       refine WK [(4,AV.bool false)] [] 6 (by simp [F7]) (by simp [F7]) ?_;simp only [Option.some.injEq] at hF;subst hF;refine AW.ret (hQ _ _ _ ?_ (AaB ?_)).1
       ·simp [Try.f3,F7]
       ·simp [F7]
     ·replace hF:=AaG h17 hF;have h17_:=Aa7 h17;have h17__:=Aa9 h17;have F8:=A4 F4 h17 h17_ h17__;try simp [F8]
      and_intros <;> first | exact GK g | apply r | omega | (simp [maxLen,F8] <;> omega)
      refine WK [(4,AV.bool false)] [] 6 (by simp [F8]) (by simp [F8]) ?_;simp only [Option.some.injEq] at hF;subst hF;refine AW.ret (hQ _ _ _ ?_ (AaB ?_)).1
      ·simp [Try.f3,F8]
      ·simp [F8]
    ·replace hF:=AaG h14 hF;have h14_:=Aa7 h14;have h14__:=Aa9 h14;have F9:=A4 F3 h14 h14_ h14__;try simp [F9]
     and_intros <;> first | exact GK g | apply r | omega | (simp [maxLen,F9] <;> omega)
     refine WK [(4,AV.bool false)] [] 6 (by simp [F9]) (by simp [F9]) ?_;simp only [Option.some.injEq] at hF;subst hF;refine AW.ret (hQ _ _ _ ?_ (AaB ?_)).1
     ·simp [Try.f3,F9]
     ·simp [F9]
   ·replace hF:=AaG h11 hF;have h11_:=Aa7 h11;have h11__:=Aa9 h11;have F10:=A4 F2 h11 h11_ h11__;try simp [F10]
    and_intros <;> first | exact GK g | apply r | omega | (simp [maxLen,F10] <;> omega)
    refine WK [(4,AV.bool false)] [] 6 (by simp [F10]) (by simp [F10]) ?_;simp only [Option.some.injEq] at hF;subst hF;refine AW.ret (hQ _ _ _ ?_ (AaB ?_)).1
    ·simp [Try.f3,F10]
    ·simp [F10]
end Go.TF
