import Derived.Test.YtomgdcnbceiggaaSmtWal29
import Derived.Test.YtomgdcnbceiggaaSmtWal30
import Derived.Test.YtomgdcnbceiggaaSmtWal31
import Derived.Test.YtomgdcnbceiggaaSmtWal32
set_option linter.unusedVariables false
set_option linter.unusedSimpArgs false
set_option maxRecDepth 100000
set_option maxHeartbeats 4000000
namespace Go.TF
open Go Go.Abs Go.Proofs Go.Proofs.YtomgdcnbceiggaaSmT
theorem Aqm (v2 v3 : Value) (w : World) :
 CallsD Try.prog 85 #[v2,v3] .returning w fun e u' w'=>e = .returned (.tuple #[])∧u' = .returning∧∃ y,w'=w.alloc y:=by
 refine callsD_of_wpS Try.func85 rfl fun c₀ cs hu=>?_;apply wpS_seq
 apply wpS_region
 simp [wpOpsS,go_sem,recoverD,hu,Try.ntmps85,Exit.thenS]
 apply wpS_seq
 apply wpS_region
 simp [wpOpsS,go_sem,Exit.thenS,Instr.typeAssert]
 apply wpS_seq
 apply wpS_region
 simp [wpOpsS,go_sem,Exit.thenS]
 refine wpS_cond (t:=false) (by simp [Act.eval,Array.replicate]) ?_;simp only [Bool.false_eq_true,if_false];apply wpS_seq
 apply wpS_region
 simp [wpOpsS,go_sem,Exit.thenS]
 refine wpS_cond (t:=false) (by simp [Act.eval,Array.replicate]) ?_;simp only [Bool.false_eq_true,if_false];refine wpS_of_wp (wp_skip ?_);cases c₀
 simp_all [bodyPostS,results,Try.results85]
 exact ⟨_,rfl⟩
def zst : List AV:=[AV.int .i64 0,AV.int .i64 0,AV.str (ByteArray.mk #[]),AV.int .i64 0,AV.int .i64 0,AV.int .i64 0,AV.int .i64 0,AV.int .i64 0,AV.lst true true [],AV.lst true true [],AV.str (ByteArray.mk #[]),AV.int .i64 0,AV.str (ByteArray.mk #[])]
theorem Ao1 (c : Cx) (H : Aah) (w : World) (v2 v3 : Value) (N : Nat) (cs : List AV) (x : AV) (hr : AcU c H w) (hu0 : Ab0 c N) (h0 : H 0=some (.cells cs)) (hl : cs.length=13) (h1 : H 1=some (.cells [x])) (r2 : Rep c (.ptr 0 0) v2) (r3 : Rep c (.ptr 1 0) v3) :
 CallsD Try.prog 85 #[v2,v3] (.panicking pch) w fun e u' w'=>e = .returned (.tuple #[])∧u' = .panicking Ark∧∃ c' H',AcU c' H' w'∧Ad0 c w c' w'∧H' 0=some (.cells zst)∧H' 1=some (.cells [.int .i64 1]):=by
 have hu : Ab0 c (N+2):=fun i hi=>hu0 i (by omega);refine callsD_of_wpS Try.func85 rfl fun c₀ cs0 hm=>?_;apply wpS_seq
 apply wpS_region
 unfold pch at hm;simp [wpOpsS,go_sem,recoverD,hm,Try.ntmps85,Exit.thenS]
 apply wpS_seq
 apply wpS_region
 simp [wpOpsS,go_sem,Exit.thenS,Instr.typeAssert]
 apply wpS_seq
 apply wpS_region
 simp [wpOpsS,go_sem,Exit.thenS]
 refine wpS_cond (t:=true) (by simp [Act.eval,Array.replicate]) ?_;simp only [if_true];obtain ⟨hr1,g1⟩:=hr.allocZ (.cells #[] 108);have hne : cs≠[]:=by intro e; subst e; simp at hl
 refine wpS_of_wp (Asb (df:=[]) (n:=16) (s:=mkS [(0,.ptr 0 0),(1,.ptr 1 0)]) (H:=H) (N:=N+2) [] N3 (by kernel_rfl) (fun K hK=>?_) (Apx hr1 (by simp) rfl hu _ ?_))
 ·have hdrop : List.drop 13 cs = []:=List.drop_of_length_le (by omega);simp [h0,h1,hl,hne,hdrop]
  refine hK _ _ _ ?_;intro a w1 ⟨c',hrel,hd,g',hu'⟩
  have g2:=g1.trans g';simp [bodyPostS,results,Try.results85,hd,Ark]
  exact ⟨c',_,hrel.hr,g2,by simp [upd,zst],by simp [upd]⟩
 ·intro p hp
  simp at hp
  rcases hp with rfl | rfl
  ·simpa [Array.replicate] using r2.mono g1.le
  ·simpa [Array.replicate] using r3.mono g1.le
theorem AeQ (k : Nat) (v0 : (List Int)) (v1 : AaI) (v2 : Int) (hF : Acs k v0=some (v1,v2)) :
 AbP Try.prog 49 [AV.lst false false (List.map (AV.int .u8) v0)] [] (AV.tup [AV.agg [AV.int .i64 v1.Author,AV.int .i64 v1.Number,AV.str v1.Prev,AV.int .i64 v1.Time,AV.int .i64 v1.Kind,AV.int .i64 v1.A,AV.int .i64 v1.B,AV.int .i64 v1.C,AV.lst false false (List.map (AV.int .i64) v1.Lst),Q0 v1.Pins,AV.str v1.Body,AV.int .i64 v1.Seal_Key,AV.str v1.Seal_Digest],AV.int .i64 v2]) [] where
 len:=by simp
 ga:=by simp
 gO:=by simp
 gr:=by simp
 gO':=by simp
 call:=by
  intro c w vs hr hu ha
  have hl : vs.size=1:=by simpa using ha.length
  refine calls_of_wp_defers Try.func49 rfl ?_;refine As8 (df:=[]) (n:=26) (s:=Am8 [AV.lst false false (List.map (AV.int .u8) v0)]) (H:=fun i=>([] : List Aan)[i]?) (N:=0) (c0:=c) (w0:=w) [] N2 (by kernel_rfl) (fun K hK=>?_) ⟨c,⟨hr,by simp [hl,Try.ntmps49],fun t ht=>AjJ ha (by simp [Try.ntmps49]) t ht⟩,rfl,.refl _ _,hu⟩;simp
  refine hK _ _ _ fun a1 w1 hs1=>?_;refine Al0 (n:=26) rfl rfl rfl rfl rfl rfl (by decide) (fun c2 a2 w2 p2 p3 hrel hd r2 r3 g2 hu2=>?_) hs1;simp at r2 r3
  let Q : Ac5:=fun e s H N=>s 2 = .ptr 0 0∧s 3 = .ptr 1 0∧((e = .ret∧H 0=some (.cells [AV.int .i64 v1.Author,AV.int .i64 v1.Number,AV.str v1.Prev,AV.int .i64 v1.Time,AV.int .i64 v1.Kind,AV.int .i64 v1.A,AV.int .i64 v1.B,AV.int .i64 v1.C,AV.lst false false (List.map (AV.int .i64) v1.Lst),Q0 v1.Pins,AV.str v1.Body,AV.int .i64 v1.Seal_Key,AV.str v1.Seal_Digest])∧H 1=some (.cells [.int .i64 v2])) ∨
   (e = .panic pch∧(∃ cs x,H 0=some (.cells cs)∧cs.length=13∧H 1=some (.cells [x]))∧v1=(AaI.mk 0 0 (ByteArray.mk #[]) 0 0 0 0 0 [] [] (ByteArray.mk #[]) 0 (ByteArray.mk #[]))∧v2=1))
  refine wp_mono (AWd.app (Q:=Q) (df:=[{ target := .fn (.func 85) #[p2,p3],args := #[] }]) (c0:=c2) (w0:=w2) ?_ ⟨c2,hrel,hd,.refl _ _,hu2⟩) ?_;rotate_left
  ·rintro e a w3 ⟨s,H,N,⟨e2,e3,h⟩,c3,hrel3,hd3,g3,hu3⟩
   have q2:=r2.mono g3.le;have q3:=r3.mono g3.le;have g4:=g2.trans g3;rcases h with ⟨rfl,h0,h1⟩ | ⟨rfl,⟨cs,x,h0,hl,h1⟩,rfl,rfl⟩
   ·show Leaves _ _ _ _ a.defers .returning w3
    rw [hd3];refine leaves_cons (f:=85) (args := #[p2,p3]) (by simp) (by simp [go_sem]) ((Aqm p2 p3 w3).mono ?_);rintro e u w4 ⟨rfl,rfl,y,rfl⟩
    obtain ⟨hr4,g5⟩:=hrel3.hr.allocZ y;have hrel4 : Rel 26 _ s H a (w3.alloc y):=⟨hr4,hrel3.size,fun t ht=>(hrel3.slot t ht).mono g5.le⟩;obtain ⟨v,k1,k2⟩:=Agg (P:=Try.prog) hrel4 (fn:=Try.f49) (r:=AV.tup [AV.agg [AV.int .i64 v1.Author,AV.int .i64 v1.Number,AV.str v1.Prev,AV.int .i64 v1.Time,AV.int .i64 v1.Kind,AV.int .i64 v1.A,AV.int .i64 v1.B,AV.int .i64 v1.C,AV.lst false false (List.map (AV.int .i64) v1.Lst),Q0 v1.Pins,AV.str v1.Body,AV.int .i64 v1.Seal_Key,AV.str v1.Seal_Digest],AV.int .i64 v2]) (by decide) (by
     show AfQ _ _ _ [.cell 2 43,.cell 3 33] _
     refine ⟨_,_,rfl,?_,?_⟩
     ·simp [Adb,e2,h0]
     ·simp [Adb,e3,h1])
    exact ⟨v,k1,v,_,H,rfl,hr4,by simp,k2,g4.trans g5⟩
   ·show Leaves _ _ _ _ a.defers (.panicking pch) w3
    rw [hd3];refine leaves_cons (f:=85) (args := #[p2,p3]) (by simp) (by simp [go_sem]) ((Ao1 c3 H w3 p2 p3 N cs x hrel3.hr hu3 h0 hl h1 q2 q3).mono ?_);rintro e u w4 ⟨rfl,rfl,c4,H4,hr4,g5,j0,j1⟩
    have hr5 : AcU c4 (Ah4 H4 [(0,.cells [AV.int .i64 0,AV.int .i64 0,AV.str (ByteArray.mk #[]),AV.int .i64 0,AV.int .i64 0,AV.int .i64 0,AV.int .i64 0,AV.int .i64 0,AV.lst false false [],AV.lst false false [],AV.str (ByteArray.mk #[]),AV.int .i64 0,AV.str (ByteArray.mk #[])])]) w4:=hr4.flg (lo:=[(0,.cells [AV.int .i64 0,AV.int .i64 0,AV.str (ByteArray.mk #[]),AV.int .i64 0,AV.int .i64 0,AV.int .i64 0,AV.int .i64 0,AV.int .i64 0,AV.lst false false [],AV.lst false false [],AV.str (ByteArray.mk #[]),AV.int .i64 0,AV.str (ByteArray.mk #[])])]) ⟨⟨_,j0,by unfold zst; exact .mk (.cons (.same _) (.cons (.same _) (.cons (.same _) (.cons (.same _) (.cons (.same _) (.cons (.same _) (.cons (.same _) (.cons (.same _) (.cons (.lst rfl) (.cons (.lst rfl) (.cons (.same _) (.cons (.same _) (.cons (.same _) .nil)))))))))))))⟩,trivial⟩ (by decide);have hrel4 : Rel 26 c4 s _ a w4:=⟨hr5,hrel3.size,fun t ht=>(hrel3.slot t ht).mono g5.le⟩;obtain ⟨v,k1,k2⟩:=Agg (P:=Try.prog) hrel4 (fn:=Try.f49) (r:=AV.tup [AV.agg [AV.int .i64 0,AV.int .i64 0,AV.str (ByteArray.mk #[]),AV.int .i64 0,AV.int .i64 0,AV.int .i64 0,AV.int .i64 0,AV.int .i64 0,AV.lst false false [],AV.lst false false [],AV.str (ByteArray.mk #[]),AV.int .i64 0,AV.str (ByteArray.mk #[])],AV.int .i64 1]) (by decide) (by
     show AfQ _ _ _ [.cell 2 43,.cell 3 33] _
     refine ⟨_,_,rfl,?_,?_⟩
     ·simp [Adb,e2,Ah4,upd]
     ·simp [Adb,e3,Ah4,upd,j1])
    show Leaves _ _ _ _ [] (settle (.panicking Ark)) w4
    exact ⟨v,k1,v,c4,_,rfl,hr5,by simp,by first | simpa using k2 | exact k2 | (simp at k2; simp; exact k2),g4.trans g5⟩
  unfold Acs at hF;refine AWd.wk [(0,.lst false false (List.map (AV.int .u8) v0)),(2,.ptr 0 0),(3,.ptr 1 0)] [(0,.cells [AV.int .i64 0,AV.int .i64 0,AV.str (ByteArray.mk #[]),AV.int .i64 0,AV.int .i64 0,AV.int .i64 0,AV.int .i64 0,AV.int .i64 0,AV.lst true true [],AV.lst true true [],AV.str (ByteArray.mk #[]),AV.int .i64 0,AV.str (ByteArray.mk #[])]),(1,.cells [AV.int .i64 0])] 2 (by simp) (by simp) (by simp) ?_;refine AWd.seqR [] N4 (by kernel_rfl) fun G K hG hK=>?_;try simp
  repeat' apply And.intro
  any_goals (first | exact hG _ | refine hK _ _ _ ?_ | omega | (unfold maxLen; omega) | (simp; done) | (simp; omega))
  refine AWd.wk [(2,.ptr 0 0),(3,.ptr 1 0),(4,.ptr 2 0)] [(0,.cells [AV.int .i64 0,AV.int .i64 0,AV.str (ByteArray.mk #[]),AV.int .i64 0,AV.int .i64 0,AV.int .i64 0,AV.int .i64 0,AV.int .i64 0,AV.lst true true [],AV.lst true true [],AV.str (ByteArray.mk #[]),AV.int .i64 0,AV.str (ByteArray.mk #[])]),(1,.cells [AV.int .i64 0]),(2,.cells [AV.lst false false (List.map (AV.int .u8) v0)])] 3 (by simp) (by simp) (by simp) ?_;cases hR : Aam k v0 with
  | none =>
   rw [hR] at hF;simp only at hF;cases hP : Aac k v0 with
   | none=>rw [hP] at hF; cases hF
   | some u =>
    rw [hP] at hF;simp only [Option.some.injEq,Prod.mk.injEq] at hF;have hv:=hF;refine AWd.pan Adh [] N3 1 [1,2] [(2,.ptr 0 0),(3,.ptr 1 0)] [(0,.cells [AV.int .i64 0,AV.int .i64 0,AV.str (ByteArray.mk #[]),AV.int .i64 0,AV.int .i64 0,AV.int .i64 0,AV.int .i64 0,AV.int .i64 0,AV.lst true true [],AV.lst true true [],AV.str (ByteArray.mk #[]),AV.int .i64 0,AV.str (ByteArray.mk #[])]),(1,.cells [AV.int .i64 0])] _ rfl (by kernel_rfl) (by simp) (by simp) (fun M=>⟨by simp,by simp,.inr ⟨rfl,⟨[AV.int .i64 0,AV.int .i64 0,AV.str (ByteArray.mk #[]),AV.int .i64 0,AV.int .i64 0,AV.int .i64 0,AV.int .i64 0,AV.int .i64 0,AV.lst true true [],AV.lst true true [],AV.str (ByteArray.mk #[]),AV.int .i64 0,AV.str (ByteArray.mk #[])],.int .i64 0,by simp,rfl,by simp⟩,hv.1.symm,hv.2.symm⟩⟩) fun K hK=>?_;simp only [msk,List.contains_cons,List.contains_nil,Nat.reduceBEq,Bool.or_false,Bool.or_true,Bool.false_or,Bool.false_eq_true,if_false,if_true,Nat.reduceAdd,Nat.zero_add];try simp
    repeat' apply And.intro
    any_goals (first | exact hK _ _ _ [2] [2] (OpP.call rfl _ _ _ rfl 86 [] rfl (by simp) (Aea k _ hP) [2] rfl (.cons (.same (by simp)) .nil) (by simp) (by decide)) (by kernel_rfl) | omega | (unfold maxLen; omega) | (simp; done) | (simp; omega))
  | some r =>
   obtain ⟨v,l⟩:=r;rw [hR] at hF;simp only at hF;refine AWd.seqR [] N3 (by kernel_rfl) fun G K hG hK=>?_;try simp
   repeat' apply And.intro
   try any_goals (first | omega | (unfold maxLen; omega) | (simp; done))
   refine AaO (Aew k _ _ _ hR) (by simp) [2] [] [2] rfl (.cons (.same (by simp)) .nil) (by simp) (by decide) (by simp) (by simp) (.inl rfl) (by simp) (by simp) ?_;try simp
   repeat' apply And.intro
   any_goals (first | exact hG _ | refine hK _ _ _ ?_ | omega | (unfold maxLen; omega) | (simp; done) | (simp; omega))
   refine AWd.wk [(2,.ptr 0 0),(3,.ptr 1 0),(4,.ptr 2 0)] [(0,.cells [AV.int .i64 v.Author,AV.int .i64 v.Number,AV.str v.Prev,AV.int .i64 v.Time,AV.int .i64 v.Kind,AV.int .i64 v.A,AV.int .i64 v.B,AV.int .i64 v.C,AV.lst false false (List.map (AV.int .i64) v.Lst),AV.slc 3 0 3 v.Pins.length false,AV.str v.Body,AV.int .i64 v.Seal_Key,AV.str v.Seal_Digest]),(1,.cells [AV.int .i64 0]),(2,.cells [AV.lst false false (List.map (AV.int .u8) l)]),(3,.grow (AaM (List.map AaD.av v.Pins)))] 4 (by simp) (by simp) (by simp) ?_;refine AWd.can ?_ fun T hT=>Can.freeze 3 (o := .grow (AaM (List.map AaD.av v.Pins))) (by simp) rfl [] [(0,.cells [AV.int .i64 v.Author,AV.int .i64 v.Number,AV.str v.Prev,AV.int .i64 v.Time,AV.int .i64 v.Kind,AV.int .i64 v.A,AV.int .i64 v.B,AV.int .i64 v.C,AV.lst false false (List.map (AV.int .i64) v.Lst),Q0 v.Pins,AV.str v.Body,AV.int .i64 v.Seal_Key,AV.str v.Seal_Digest])] trivial ⟨⟨by simp,.cells [AV.int .i64 v.Author,AV.int .i64 v.Number,AV.str v.Prev,AV.int .i64 v.Time,AV.int .i64 v.Kind,AV.int .i64 v.A,AV.int .i64 v.B,AV.int .i64 v.C,AV.lst false false (List.map (AV.int .i64) v.Lst),AV.slc 3 0 3 v.Pins.length false,AV.str v.Body,AV.int .i64 v.Seal_Key,AV.str v.Seal_Digest],by simp,.mk (.cons (.same _) (.cons (.same _) (.cons (.same _) (.cons (.same _) (.cons (.same _) (.cons (.same _) (.cons (.same _) (.cons (.same _) (.cons (.same _) (.cons (.l (by simp) (by simp) (by simp) (by simp)) (.cons (.same _) (.cons (.same _) (.cons (.same _) .nil)))))))))))))⟩,trivial⟩ hT;refine AWd.wk [(2,.ptr 0 0),(3,.ptr 1 0),(4,.ptr 2 0)] [(0,.cells [AV.int .i64 v.Author,AV.int .i64 v.Number,AV.str v.Prev,AV.int .i64 v.Time,AV.int .i64 v.Kind,AV.int .i64 v.A,AV.int .i64 v.B,AV.int .i64 v.C,AV.lst false false (List.map (AV.int .i64) v.Lst),Q0 v.Pins,AV.str v.Body,AV.int .i64 v.Seal_Key,AV.str v.Seal_Digest]),(1,.cells [AV.int .i64 0]),(2,.cells [AV.lst false false (List.map (AV.int .u8) l)])] 4 (by simp) (by simp) (by simp) ?_;by_cases hl0 : l.length=0
   ·rw [if_pos hl0] at hF;have hl1 : l = []:=List.length_eq_zero_iff.1 hl0;subst hl1;refine AWd.seqR [] N7 (by kernel_rfl) fun G K hG hK=>?_;try simp
    repeat' apply And.intro
    try any_goals (first | omega | (unfold maxLen; omega) | (simp; done))
    refine AaO (Abx k true rfl) (by simp) [] [] [] rfl (.cons (.same (by simp)) .nil) (by simp) (by decide) (by simp) (by simp) (.inl rfl) (by simp) (by simp) ?_;try simp
    repeat' apply And.intro
    any_goals (first | exact hG _ | refine hK _ _ _ ?_ | omega | (unfold maxLen; omega) | (simp; done) | (simp; omega))
    refine AWd.wk [(2,.ptr 0 0),(3,.ptr 1 0)] [(0,.cells [AV.int .i64 v.Author,AV.int .i64 v.Number,AV.str v.Prev,AV.int .i64 v.Time,AV.int .i64 v.Kind,AV.int .i64 v.A,AV.int .i64 v.B,AV.int .i64 v.C,AV.lst false false (List.map (AV.int .i64) v.Lst),Q0 v.Pins,AV.str v.Body,AV.int .i64 v.Seal_Key,AV.str v.Seal_Digest]),(1,.cells [AV.int .i64 0])] 4 (by simp) (by simp) (by simp) ?_;obtain ⟨cc,hc,hF⟩:=AaG hF;by_cases hc0 : cc=0
    ·rw [if_pos hc0] at hF;subst hc0;refine AWd.seqR [] N4 (by kernel_rfl) fun G K hG hK=>?_;try simp
     repeat' apply And.intro
     try any_goals (first | omega | (unfold maxLen; omega) | (simp; done))
     refine AaO (Acd k _ _ _ _ _ _ _ _ _ _ _ _ _ _ hc) (by simp) [] [] [] rfl (.cons (.same (by simp)) .nil) (by simp) (by decide) (by simp) (by simp) (.inl rfl) (by simp) (by simp) ?_;try simp
     repeat' apply And.intro
     try any_goals (first | omega | (unfold maxLen; omega) | (simp; done))
     refine AaO (Abx k true rfl) (by simp) [] [] [] rfl (.cons (.same (by simp)) .nil) (by simp) (by decide) (by simp) (by simp) (.inl rfl) (by simp) (by simp) ?_;try simp
     repeat' apply And.intro
     any_goals (first | exact hG _ | refine hK _ _ _ ?_ | omega | (unfold maxLen; omega) | (simp; done) | (simp; omega))
     refine AWd.wk [(2,.ptr 0 0),(3,.ptr 1 0)] [(0,.cells [AV.int .i64 v.Author,AV.int .i64 v.Number,AV.str v.Prev,AV.int .i64 v.Time,AV.int .i64 v.Kind,AV.int .i64 v.A,AV.int .i64 v.B,AV.int .i64 v.C,AV.lst false false (List.map (AV.int .i64) v.Lst),Q0 v.Pins,AV.str v.Body,AV.int .i64 v.Seal_Key,AV.str v.Seal_Digest]),(1,.cells [AV.int .i64 0])] 4 (by simp) (by simp) (by simp) ?_;obtain ⟨bb,hb,hF⟩:=AaG hF;cases bb with
     | false =>
      simp only [Bool.false_eq_true,if_false] at hF;simp only [Option.some.injEq,Prod.mk.injEq] at hF;have hv:=hF;refine AWd.pan Adh [] N3 2 [2] [(2,.ptr 0 0),(3,.ptr 1 0)] [(0,.cells [AV.int .i64 v.Author,AV.int .i64 v.Number,AV.str v.Prev,AV.int .i64 v.Time,AV.int .i64 v.Kind,AV.int .i64 v.A,AV.int .i64 v.B,AV.int .i64 v.C,AV.lst false false (List.map (AV.int .i64) v.Lst),Q0 v.Pins,AV.str v.Body,AV.int .i64 v.Seal_Key,AV.str v.Seal_Digest]),(1,.cells [AV.int .i64 0])] _ rfl (by kernel_rfl) (by simp) (by simp) (fun M=>⟨by simp,by simp,.inr ⟨rfl,⟨[AV.int .i64 v.Author,AV.int .i64 v.Number,AV.str v.Prev,AV.int .i64 v.Time,AV.int .i64 v.Kind,AV.int .i64 v.A,AV.int .i64 v.B,AV.int .i64 v.C,AV.lst false false (List.map (AV.int .i64) v.Lst),Q0 v.Pins,AV.str v.Body,AV.int .i64 v.Seal_Key,AV.str v.Seal_Digest],.int .i64 0,by simp,rfl,by simp⟩,hv.1.symm,hv.2.symm⟩⟩) fun K hK=>?_;simp only [msk,List.contains_cons,List.contains_nil,Nat.reduceBEq,Bool.or_false,Bool.or_true,Bool.false_or,Bool.false_eq_true,if_false,if_true,Nat.reduceAdd,Nat.zero_add];try simp
      repeat' apply And.intro
      try any_goals (first | omega | (unfold maxLen; omega) | (simp; done))
      refine AaO (AcR k _ _ _ _ _ _ _ _ _ _ _ _ _ _ hb) (by simp) [] [] [] rfl (.cons (.same (by simp)) .nil) (by simp) (by decide) (by simp) (by simp) (.inl rfl) (by simp) (by simp) ?_;try simp
      repeat' apply And.intro
      any_goals (first | exact hK _ _ _ [] [] (OpP.call rfl _ _ _ rfl 87 [] rfl (by simp) (Abr k false rfl) [] rfl (.cons (.same (by simp)) .nil) (by simp) (by decide)) (by kernel_rfl) | omega | (unfold maxLen; omega) | (simp; done) | (simp; omega))
     | true =>
      simp only [if_true] at hF;simp only [Option.some.injEq,Prod.mk.injEq] at hF;have hv:=hF;obtain ⟨rfl,rfl⟩:=hv;refine AWd.seqR [] N3 (by kernel_rfl) fun G K hG hK=>?_;try simp
      repeat' apply And.intro
      try any_goals (first | omega | (unfold maxLen; omega) | (simp; done))
      refine AaO (AcR k _ _ _ _ _ _ _ _ _ _ _ _ _ _ hb) (by simp) [] [] [] rfl (.cons (.same (by simp)) .nil) (by simp) (by decide) (by simp) (by simp) (.inl rfl) (by simp) (by simp) ?_;try simp
      repeat' apply And.intro
      try any_goals (first | omega | (unfold maxLen; omega) | (simp; done))
      refine AaO (Abx k true rfl) (by simp) [] [] [] rfl (.cons (.same (by simp)) .nil) (by simp) (by decide) (by simp) (by simp) (.inl rfl) (by simp) (by simp) ?_;try simp
      repeat' apply And.intro
      any_goals (first | exact hG _ | refine hK _ _ _ ?_ | omega | (unfold maxLen; omega) | (simp; done) | (simp; omega))
      refine AWd.wk [(2,.ptr 0 0),(3,.ptr 1 0)] [(0,.cells [AV.int .i64 v.Author,AV.int .i64 v.Number,AV.str v.Prev,AV.int .i64 v.Time,AV.int .i64 v.Kind,AV.int .i64 v.A,AV.int .i64 v.B,AV.int .i64 v.C,AV.lst false false (List.map (AV.int .i64) v.Lst),Q0 v.Pins,AV.str v.Body,AV.int .i64 v.Seal_Key,AV.str v.Seal_Digest]),(1,.cells [AV.int .i64 0])] 4 (by simp) (by simp) (by simp) ?_;refine AWd.seqR [] N3 (by kernel_rfl) fun G K hG hK=>?_;try simp
      repeat' apply And.intro
      any_goals (first | exact hG _ | refine hK _ _ _ ?_ | omega | (unfold maxLen; omega) | (simp; done) | (simp; omega))
      refine AWd.ret ⟨by simp,by simp,.inl ⟨rfl,by simp,by simp⟩⟩
    ·rw [if_neg hc0] at hF;simp only [Option.some.injEq,Prod.mk.injEq] at hF;have hv:=hF;refine AWd.pan Adh [] N4 3 [3] [(2,.ptr 0 0),(3,.ptr 1 0)] [(0,.cells [AV.int .i64 v.Author,AV.int .i64 v.Number,AV.str v.Prev,AV.int .i64 v.Time,AV.int .i64 v.Kind,AV.int .i64 v.A,AV.int .i64 v.B,AV.int .i64 v.C,AV.lst false false (List.map (AV.int .i64) v.Lst),Q0 v.Pins,AV.str v.Body,AV.int .i64 v.Seal_Key,AV.str v.Seal_Digest]),(1,.cells [AV.int .i64 0])] _ rfl (by kernel_rfl) (by simp) (by simp) (fun M=>⟨by simp,by simp,.inr ⟨rfl,⟨[AV.int .i64 v.Author,AV.int .i64 v.Number,AV.str v.Prev,AV.int .i64 v.Time,AV.int .i64 v.Kind,AV.int .i64 v.A,AV.int .i64 v.B,AV.int .i64 v.C,AV.lst false false (List.map (AV.int .i64) v.Lst),Q0 v.Pins,AV.str v.Body,AV.int .i64 v.Seal_Key,AV.str v.Seal_Digest],.int .i64 0,by simp,rfl,by simp⟩,hv.1.symm,hv.2.symm⟩⟩) fun K hK=>?_;simp only [msk,List.contains_cons,List.contains_nil,Nat.reduceBEq,Bool.or_false,Bool.or_true,Bool.false_or,Bool.false_eq_true,if_false,if_true,Nat.reduceAdd,Nat.zero_add];try simp [hc0]
     repeat' apply And.intro
     try any_goals (first | omega | (unfold maxLen; omega) | (simp; done))
     refine AaO (Acd k _ _ _ _ _ _ _ _ _ _ _ _ _ _ hc) (by simp) [] [] [] rfl (.cons (.same (by simp)) .nil) (by simp) (by decide) (by simp) (by simp) (.inl rfl) (by simp) (by simp) ?_;try simp [hc0]
     repeat' apply And.intro
     any_goals (first | exact hK _ _ _ [] [] (OpP.call rfl _ _ _ rfl 87 [] rfl (by simp) (Abr k false rfl) [] rfl (.cons (.same (by simp [hc0])) .nil) (by simp) (by decide)) (by kernel_rfl) | omega | (unfold maxLen; omega) | (simp; done) | (simp; omega))
   ·rw [if_neg hl0] at hF;simp only [Option.some.injEq,Prod.mk.injEq] at hF;have hv:=hF;have hl1 : l≠[]:=fun e=>hl0 (by rw [e]; rfl);refine AWd.pan Adh [] N7 6 [6] [(2,.ptr 0 0),(3,.ptr 1 0)] [(0,.cells [AV.int .i64 v.Author,AV.int .i64 v.Number,AV.str v.Prev,AV.int .i64 v.Time,AV.int .i64 v.Kind,AV.int .i64 v.A,AV.int .i64 v.B,AV.int .i64 v.C,AV.lst false false (List.map (AV.int .i64) v.Lst),Q0 v.Pins,AV.str v.Body,AV.int .i64 v.Seal_Key,AV.str v.Seal_Digest]),(1,.cells [AV.int .i64 0])] _ rfl (by kernel_rfl) (by simp) (by simp) (fun M=>⟨by simp,by simp,.inr ⟨rfl,⟨[AV.int .i64 v.Author,AV.int .i64 v.Number,AV.str v.Prev,AV.int .i64 v.Time,AV.int .i64 v.Kind,AV.int .i64 v.A,AV.int .i64 v.B,AV.int .i64 v.C,AV.lst false false (List.map (AV.int .i64) v.Lst),Q0 v.Pins,AV.str v.Body,AV.int .i64 v.Seal_Key,AV.str v.Seal_Digest],.int .i64 0,by simp,rfl,by simp⟩,hv.1.symm,hv.2.symm⟩⟩) fun K hK=>?_;simp only [msk,List.contains_cons,List.contains_nil,Nat.reduceBEq,Bool.or_false,Bool.or_true,Bool.false_or,Bool.false_eq_true,if_false,if_true,Nat.reduceAdd,Nat.zero_add];try simp [hl0,hl1]
    repeat' apply And.intro
    any_goals (first | exact hK _ _ _ [] [] (OpP.call rfl _ _ _ rfl 87 [] rfl (by simp) (Abr k false rfl) [] rfl (.cons (.same (by simp [hl0,hl1])) .nil) (by simp) (by decide)) (by kernel_rfl) | omega | (unfold maxLen; omega) | (simp; done) | (simp; omega))
theorem AfC (k : Nat) (v0 v1 : (List Int)) (v2 : Bool) (hF : Aa2 k v0 v1=some v2) :
 AbP Try.prog 92 [AV.lst false false (List.map (AV.int .i64) v0),AV.lst false false (List.map (AV.int .i64) v1)] [] (AV.bool v2) []:=by
 unfold Aa2 at hF;refine EN Try.func92 ?_;intro c0 w0 Q h0 hQ
 refine WJ [(0,Lz v0),(1,Lz v1)] [] 0 (by simp) ?_;refine SW trivial [] [none] [] [] [] [] 0 ?_;refine AW.seq fun K0 hK0=>?_;refine SW trivial [] N5 [] [(10,.bool ((v0.length : Int) !=(v1.length : Int)))] [] [] 0 ?_;rcases IFo hF with ⟨h1,hF⟩|⟨h1,hF⟩
 ·have h1_:=Aba h1;have h1__:=Abd h1;have F1:=A3 h1 h1_ h1__;refine CT (by simp [F1] <;> omega) ?_;refine SW F1 [] [none] [0,1,10] [(4,.bool false)] [] [] 0 ?_;cases hF;exact AW.ret (hQ _ _ _ (by simp [Try.f92,F1]) (AaE (by simp [F1]))).1
 ·have h1q : (v0.length : Int)=(v1.length : Int):=Classical.not_not.1 h1;have h1_:=Abf h1q;have h1__:=Abe h1q;refine CF (by simp [h1_,h1__] <;> omega) ?_;refine AW.skip (hK0 _ _ _ ?_);refine AW.seq fun K1 hK1=>?_;refine SW (A2 h1_ h1__) [] N3 [10] [(12,Iz (v0.length : Int)),(13,Iz 0)] [] [] 0 ?_;refine AW.block ?_;refine AW.loopF (α:=Int) (fun n v3=>Aa2.L1 k v0 v1 n v3=some v2) (fun v3=>[(0,Lz v0),(1,Lz v1),(12,Iz (v0.length : Int)),(13,Iz v3)]) (fun v3=>[]) 0 k (0) hF (by simp [h1_,h1__]) (by simp [h1_,h1__]) (by simp) ?_;rintro (_|n1) v3 hF K2 hK2
  ·try dsimp only at hF
   rw [Aa2.L1] at hF; cases hF
  try dsimp only at hF
  rw [Aa2.L1] at hF;refine SW (A2 h1_ h1__) [] [none] [] [(14,.bool (decide (v3<(v0.length : Int))))] [] [] 0 ?_;refine AW.seq fun K3 hK3=>?_;rcases IFo hF with ⟨h2,hF⟩|⟨h2,hF⟩
  ·have h2_:=h2;try simp at h2_
   have F2:=A4 h1_ h1__ h2 h2_;refine CT (by simp [F2] <;> omega) ?_;refine AW.skip (hK3 _ _ _ ?_);refine AW.seq fun K4 hK4=>?_;refine AW.block ?_;refine SW F2 [] N2 [] [(5,Iz v3)] [] [] 0 ?_;refine SR [] N9 fun _ _ g r=>?_;obtain ⟨v4,h3,h4,h5,hF⟩:=Aai hF;have h5_:=AbA h5;try simp at h5_
   have h4_:=h4;try simp at h4_
   obtain ⟨v5,h6,h7,h8,hF⟩:=Aai hF;have h8_:=AbA h8;try simp at h8_
   have h7_:=h7;try simp at h7_
   have F3:=A9 F2 h3 h4 h5 h5_ h4_ h6 h7 (A3 h8 h8_ h7_);refine TL F3 g r [5] [(24,.bool (v4 !=v5))] [] [] 0 ?_;rcases IFo hF with ⟨h9,hF⟩|⟨h9,hF⟩
   ·have h9_:=Aba h9;have h9__:=Abd h9;have F4:=A4 F3 h9 h9_ h9__;refine CT (by simp [F4] <;> omega) ?_;refine SW F4 [] [none] [0,1,12,13,24] [(4,.bool false)] [] [] 0 ?_;cases hF;exact AW.ret (hQ _ _ _ (by simp [Try.f92,F4]) (AaE (by simp [F4]))).1
   ·have h9q : v4=v5:=Classical.not_not.1 h9;have h9_:=Abf h9q;have h9__:=Abe h9q;have F5:=A3 F3 h9_ h9__;refine CF (by simp [F5] <;> omega) ?_;refine AW.skip (hK4 _ _ _ ?_);refine RG [] N2 fun _ _ g r=>?_;try simp [F5]
    and_intros <;> first | exact GK g | apply r | omega | (simp [maxLen,F5] <;> omega)
    refine hK2 _ _ _ ?_;exact NX (k':=n1) (IntKind.wrap .i64 (v3+1)) hF (by simp [F5]) (by simp [F5])
  ·have h2_:=h2;try simp at h2_
   have F6:=A4 h1_ h1__ h2 h2_;refine CF (by simp [F6] <;> omega) ?_;refine AW.exit ?_;try simp
   refine hK1 _ _ _ ?_;refine SW F6 [] [none] [0,1,12,13] [(4,.bool true)] [] [] 0 ?_;cases hF;exact AW.ret (hQ _ _ _ (by simp [Try.f92,F6]) (AaE (by simp [F6]))).1
theorem Adq (k : Nat) (v0 v1 : (List AaD)) (v2 : Bool) (hF : Aae k v0 v1=some v2) :
 AbP Try.prog 93 [Q0 v0,Q0 v1] [] (AV.bool v2) []:=by
 unfold Aae at hF;refine EN Try.func93 ?_;intro c0 w0 Q h0 hQ
 refine WJ [(0,Q0 v0),(1,Q0 v1)] [] 0 (by simp) ?_;refine SW trivial [] [none] [] [] [] [] 0 ?_;refine AW.seq fun K0 hK0=>?_;refine SW trivial [] N5 [] [(10,.bool ((v0.length : Int) !=(v1.length : Int)))] [] [] 0 ?_;rcases IFo hF with ⟨h1,hF⟩|⟨h1,hF⟩
 ·have h1_:=Aba h1;have h1__:=Abd h1;have F1:=A3 h1 h1_ h1__;refine CT (by simp [F1] <;> omega) ?_;refine SW F1 [] [none] [0,1,10] [(4,.bool false)] [] [] 0 ?_;cases hF;exact AW.ret (hQ _ _ _ (by simp [Try.f93,F1]) (AaE (by simp [F1]))).1
 ·have h1q : (v0.length : Int)=(v1.length : Int):=Classical.not_not.1 h1;have h1_:=Abf h1q;have h1__:=Abe h1q;refine CF (by simp [h1_,h1__] <;> omega) ?_;refine AW.skip (hK0 _ _ _ ?_);refine AW.seq fun K1 hK1=>?_;refine SW (A2 h1_ h1__) [] N3 [10] [(12,Iz (v0.length : Int)),(13,Iz 0)] [] [] 0 ?_;refine AW.block ?_;refine AW.loopF (α:=Int) (fun n v3=>Aae.L1 k v0 v1 n v3=some v2) (fun v3=>[(0,Q0 v0),(1,Q0 v1),(12,Iz (v0.length : Int)),(13,Iz v3)]) (fun v3=>[]) 0 k (0) hF (by simp [h1_,h1__]) (by simp [h1_,h1__]) (by simp) ?_;rintro (_|n1) v3 hF K2 hK2
  ·try dsimp only at hF
   rw [Aae.L1] at hF; cases hF
  try dsimp only at hF
  rw [Aae.L1] at hF;refine SW (A2 h1_ h1__) [] [none] [] [(14,.bool (decide (v3<(v0.length : Int))))] [] [] 0 ?_;refine AW.seq fun K3 hK3=>?_;rcases IFo hF with ⟨h2,hF⟩|⟨h2,hF⟩
  ·have h2_:=h2;try simp at h2_
   have F2:=A4 h1_ h1__ h2 h2_;refine CT (by simp [F2] <;> omega) ?_;refine AW.skip (hK3 _ _ _ ?_);refine AW.seq fun K4 hK4=>?_;refine AW.block ?_;refine SW F2 [] N2 [] [(5,Iz v3)] [] [] 0 ?_;refine SR [] N9 fun _ _ g r=>?_;obtain ⟨v4,h3,h4,h5,hF⟩:=Aai hF;have h5_:=AbA h5;try simp at h5_
   have h4_:=h4;try simp at h4_
   obtain ⟨v5,h6,h7,h8,hF⟩:=Aai hF;have h8_:=AbA h8;try simp at h8_
   have h7_:=h7;try simp at h7_
   obtain ⟨v6,h9,hF⟩:=AeJ hF;have h9_:=h9;try simp at h9_
   have F3:=A9 F2 h3 h4 h5 h5_ h4_ h6 h7 (A5 h8 h8_ h7_ h9 h9_);refine TL F3 g r [5] [(24,.bool (!v6))] [] [] 0 ?_;rcases IFo hF with ⟨h10,hF⟩|⟨h10,hF⟩
   ·have h10_:=h10;try simp at h10_
    have F4:=A3 F3 h10 h10_;refine CT (by simp [F4] <;> omega) ?_;refine SW F4 [] [none] [0,1,12,13,24] [(4,.bool false)] [] [] 0 ?_;cases hF;exact AW.ret (hQ _ _ _ (by simp [Try.f93,F4]) (AaE (by simp [F4]))).1
   ·have h10_:=h10;try simp at h10_
    have F5:=A3 F3 h10 h10_;refine CF (by simp [F5] <;> omega) ?_;refine AW.skip (hK4 _ _ _ ?_);refine RG [] N2 fun _ _ g r=>?_;try simp [F5]
    and_intros <;> first | exact GK g | apply r | omega | (simp [maxLen,F5] <;> omega)
    refine hK2 _ _ _ ?_;exact NX (k':=n1) (IntKind.wrap .i64 (v3+1)) hF (by simp [F5]) (by simp [F5])
  ·have h2_:=h2;try simp at h2_
   have F6:=A4 h1_ h1__ h2 h2_;refine CF (by simp [F6] <;> omega) ?_;refine AW.exit ?_;try simp
   refine hK1 _ _ _ ?_;refine SW F6 [] [none] [0,1,12,13] [(4,.bool true)] [] [] 0 ?_;cases hF;exact AW.ret (hQ _ _ _ (by simp [Try.f93,F6]) (AaE (by simp [F6]))).1
theorem AdI (k : Nat) (v0 v1 : Int) (v2 : ByteArray) (v3 v4 v5 v6 v7 : Int) (v8 : (List Int)) (v9 : (List AaD)) (v10 : ByteArray) (v11 : Int) (v12 : ByteArray) (v13 v14 : Int) (v15 : ByteArray) (v16 v17 v18 v19 v20 : Int) (v21 : (List Int)) (v22 : (List AaD)) (v23 : ByteArray) (v24 : Int) (v25 : ByteArray) (v26 : Bool) (hF : AcF k v0 v1 v2 v3 v4 v5 v6 v7 v8 v9 v10 v11 v12 v13 v14 v15 v16 v17 v18 v19 v20 v21 v22 v23 v24 v25=some v26) :
 AbP Try.prog 53 [AV.agg [AV.int .i64 v0,AV.int .i64 v1,AV.str v2,AV.int .i64 v3,AV.int .i64 v4,AV.int .i64 v5,AV.int .i64 v6,AV.int .i64 v7,AV.lst false false (List.map (AV.int .i64) v8),Q0 v9,AV.str v10,AV.int .i64 v11,AV.str v12],AV.agg [AV.int .i64 v13,AV.int .i64 v14,AV.str v15,AV.int .i64 v16,AV.int .i64 v17,AV.int .i64 v18,AV.int .i64 v19,AV.int .i64 v20,AV.lst false false (List.map (AV.int .i64) v21),Q0 v22,AV.str v23,AV.int .i64 v24,AV.str v25]] [] (AV.bool v26) []:=by
 unfold AcF at hF;refine EN Try.func53 ?_;intro c0 w0 Q h0 hQ
 refine WJ [(0,.agg [Iz v0,Iz v1,AV.str v2,Iz v3,Iz v4,Iz v5,Iz v6,Iz v7,Lz v8,Q0 v9,AV.str v10,Iz v11,AV.str v12]),(1,.agg [Iz v13,Iz v14,AV.str v15,Iz v16,Iz v17,Iz v18,Iz v19,Iz v20,Lz v21,Q0 v22,AV.str v23,Iz v24,AV.str v25])] [] 0 (by simp) ?_;refine SW trivial [] N3 [0,1] [(2,.ptr 0 0),(3,.ptr 1 0)] [] [(0,.cells [Iz v0,Iz v1,AV.str v2,Iz v3,Iz v4,Iz v5,Iz v6,Iz v7,Lz v8,Q0 v9,AV.str v10,Iz v11,AV.str v12]),(1,.cells [Iz v13,Iz v14,AV.str v15,Iz v16,Iz v17,Iz v18,Iz v19,Iz v20,Lz v21,Q0 v22,AV.str v23,Iz v24,AV.str v25])] 2 ?_;refine SR [] [none,none,none,none,none,none,some (10,true),some (10,true),some (10,true),some (10,true),some (10,true),none,none,some (17,true),some (17,true),some (17,true),some (17,true),some (17,true),none,none,some (24,true),some (24,true),some (24,true),some (24,true),some (24,true),none,none,some (31,true),some (31,true),some (31,true),some (31,true),some (31,true),none,none,some (38,true),some (38,true),some (38,true),some (38,true),some (38,true),none,none,some (45,true),some (45,true),some (45,true),some (45,true),some (45,true),none,none,some (52,true),some (52,true),some (52,true),some (52,true),some (52,true),none,none,some (59,true),some (59,true),some (59,true),some (59,true),some (59,true),none,none,some (66,true),some (66,true),some (66,true),some (66,true),some (66,true),none,none,some (73,true),some (73,true),some (73,true),some (73,true),some (73,true),none,none,some (80,true),some (80,true),some (80,true),some (80,true),some (80,true),none,none] fun _ _ g r=>?_;rcases IFo hF with ⟨h1,hF⟩|⟨h1,hF⟩
 ·have h1q : v0=v13:=h1;have h1_:=Abf h1q;have h1__:=Abe h1q;rcases IFo hF with ⟨h2,hF⟩|⟨h2,hF⟩
  ·have h2q : v1=v14:=h2;have h2_:=Abf h2q;have h2__:=Abe h2q;rcases IFo hF with ⟨h3,hF⟩|⟨h3,hF⟩
   ·have h3_:=h3;try simp at h3_
    rcases IFo hF with ⟨h4,hF⟩|⟨h4,hF⟩
    ·have h4q : v3=v16:=h4;have h4_:=Abf h4q;have h4__:=Abe h4q;rcases IFo hF with ⟨h5,hF⟩|⟨h5,hF⟩
     ·have h5q : v4=v17:=h5;have h5_:=Abf h5q;have h5__:=Abe h5q;rcases IFo hF with ⟨h6,hF⟩|⟨h6,hF⟩
      ·have h6q : v5=v18:=h6;have h6_:=Abf h6q;have h6__:=Abe h6q;rcases IFo hF with ⟨h7,hF⟩|⟨h7,hF⟩
       ·have h7q : v6=v19:=h7;have h7_:=Abf h7q;have h7__:=Abe h7q;rcases IFo hF with ⟨h8,hF⟩|⟨h8,hF⟩
        ·have h8q : v7=v20:=h8;have h8_:=Abf h8q;have h8__:=Abe h8q;have F1:=A9 h1_ h1__ h2_ h2__ h3 h3_ h4_ h4__ (A8 h5_ h5__ h6_ h6__ h7_ h7__ h8_ h8__);try simp [F1]
         and_intros
         try any_goals first | omega | (simp [maxLen,F1] <;> omega)
         obtain ⟨v27,h9,hF⟩:=AaG hF;refine AC (AfC k _ _ _ h9) (.cons (.same (by simp [F1])) (.cons (.same (by simp [F1])) .nil)) ?_;rcases IFo hF with ⟨h10,hF⟩|⟨h10,hF⟩
         ·have h10_:=h10;try simp at h10_
          have F2:=A3 F1 h10 h10_;try simp [F2]
          and_intros
          try any_goals first | omega | (simp [maxLen,F2] <;> omega)
          obtain ⟨v28,h11,hF⟩:=AaG hF;refine AC (Adq k _ _ _ h11) (.cons (.same (by simp [F2])) (.cons (.same (by simp [F2])) .nil)) ?_;rcases IFo hF with ⟨h12,hF⟩|⟨h12,hF⟩
          ·have h12_:=h12;try simp at h12_
           rcases IFo hF with ⟨h13,hF⟩|⟨h13,hF⟩
           ·have h13_:=h13;try simp at h13_
            obtain ⟨v29,h14,hF⟩:=AeJ hF;have h14_:=h14;try simp at h14_
            have F3:=A7 F2 h12 h12_ h13 h13_ h14 h14_;refine TL F3 g r [2,3] [(4,.bool v29)] [0,1] [] 2 ?_;cases hF;exact AW.ret (hQ _ _ _ (by simp [Try.f53,F3]) (AaE (by simp [F3]))).1
           ·have h13_:=h13;try simp at h13_
            have F4:=A5 F2 h12 h12_ h13 h13_;refine TL F4 g r [2,3] [(4,.bool false)] [0,1] [] 2 ?_;cases hF;exact AW.ret (hQ _ _ _ (by simp [Try.f53,F4]) (AaE (by simp [F4]))).1
          ·have h12_:=h12;try simp at h12_
           have F5:=A3 F2 h12 h12_;refine TL F5 g r [2,3] [(4,.bool false)] [0,1] [] 2 ?_;cases hF;exact AW.ret (hQ _ _ _ (by simp [Try.f53,F5]) (AaE (by simp [F5]))).1
         ·have h10_:=h10;try simp at h10_
          have F6:=A3 F1 h10 h10_;refine TL F6 g r [2,3] [(4,.bool false)] [0,1] [] 2 ?_;cases hF;exact AW.ret (hQ _ _ _ (by simp [Try.f53,F6]) (AaE (by simp [F6]))).1
        ·have h8_:=Aba h8;have h8__:=Abd h8;have F7:=A9 h1_ h1__ h2_ h2__ h3 h3_ h4_ h4__ (A9 h5_ h5__ h6_ h6__ h7_ h7__ h8 h8_ h8__);refine TL F7 g r [2,3] [(4,.bool false)] [0,1] [] 2 ?_;cases hF;exact AW.ret (hQ _ _ _ (by simp [Try.f53,F7]) (AaE (by simp [F7]))).1
       ·have h7_:=Aba h7;have h7__:=Abd h7;have F8:=A9 h1_ h1__ h2_ h2__ h3 h3_ h4_ h4__ (A7 h5_ h5__ h6_ h6__ h7 h7_ h7__);refine TL F8 g r [2,3] [(4,.bool false)] [0,1] [] 2 ?_;cases hF;exact AW.ret (hQ _ _ _ (by simp [Try.f53,F8]) (AaE (by simp [F8]))).1
      ·have h6_:=Aba h6;have h6__:=Abd h6;have F9:=A9 h1_ h1__ h2_ h2__ h3 h3_ h4_ h4__ (A5 h5_ h5__ h6 h6_ h6__);refine TL F9 g r [2,3] [(4,.bool false)] [0,1] [] 2 ?_;cases hF;exact AW.ret (hQ _ _ _ (by simp [Try.f53,F9]) (AaE (by simp [F9]))).1
     ·have h5_:=Aba h5;have h5__:=Abd h5;have F10:=A9 h1_ h1__ h2_ h2__ h3 h3_ h4_ h4__ (A3 h5 h5_ h5__);refine TL F10 g r [2,3] [(4,.bool false)] [0,1] [] 2 ?_;cases hF;exact AW.ret (hQ _ _ _ (by simp [Try.f53,F10]) (AaE (by simp [F10]))).1
    ·have h4_:=Aba h4;have h4__:=Abd h4;have F11:=A9 h1_ h1__ h2_ h2__ h3 h3_ h4 h4_ h4__;refine TL F11 g r [2,3] [(4,.bool false)] [0,1] [] 2 ?_;cases hF;exact AW.ret (hQ _ _ _ (by simp [Try.f53,F11]) (AaE (by simp [F11]))).1
   ·have h3_:=h3;try simp at h3_
    have F12:=A6 h1_ h1__ h2_ h2__ h3 h3_;refine TL F12 g r [2,3] [(4,.bool false)] [0,1] [] 2 ?_;cases hF;exact AW.ret (hQ _ _ _ (by simp [Try.f53,F12]) (AaE (by simp [F12]))).1
  ·have h2_:=Aba h2;have h2__:=Abd h2;have F13:=A5 h1_ h1__ h2 h2_ h2__;refine TL F13 g r [2,3] [(4,.bool false)] [0,1] [] 2 ?_;cases hF;exact AW.ret (hQ _ _ _ (by simp [Try.f53,F13]) (AaE (by simp [F13]))).1
 ·have h1_:=Aba h1;have h1__:=Abd h1;have F14:=A3 h1 h1_ h1__;refine TL F14 g r [2,3] [(4,.bool false)] [0,1] [] 2 ?_;cases hF;exact AW.ret (hQ _ _ _ (by simp [Try.f53,F14]) (AaE (by simp [F14]))).1
theorem AgA (k : Nat) (v0 : Bool) (hF : AcX k=some v0) :
 AbP Try.prog 19 [] [] (AV.bool v0) []:=by
 unfold AcX at hF;refine EN Try.func19 ?_;intro c0 w0 Q h0 hQ
 refine WJ [] [] 0 (by simp) ?_;refine SW trivial [] [none] [] [] [] [] 0 ?_;refine SR [] N4 fun _ _ g r=>?_;try simp
 and_intros
 try any_goals first | omega | (simp [maxLen] <;> omega)
 obtain ⟨v1,h1,hF⟩:=AaG hF;refine AC (Ae6 k _ _ _ _ _ _ _ _ _ _ _ _ _ _ h1) (.cons (.agg (.cons (.same (by simp)) (.cons (.same (by simp)) (.cons (.same (by simp)) (.cons (.same (by simp)) (.cons (.same (by simp)) (.cons (.same (by simp)) (.cons (.same (by simp)) (.cons (.same (by simp)) (.cons (Coe.fl (by simp)) (.cons (Coe.fl (by simp)) (.cons (.same (by simp)) (.cons (.same (by simp)) (.cons (.same (by simp)) .nil)))))))))))))) .nil) ?_;refine TL trivial g r [] [(1,.ptr 0 0)] [] [(0,.cells [Iz v1.Author,Iz v1.Number,AV.str v1.Prev,Iz v1.Time,Iz v1.Kind,Iz v1.A,Iz v1.B,Iz v1.C,AV.lst false false (List.map (AV.int .i64) v1.Lst),Q0 v1.Pins,AV.str v1.Body,Iz v1.Seal_Key,AV.str v1.Seal_Digest])] 1 ?_;obtain ⟨v2,v3,h2,hF⟩:=Aaa hF;refine CL trivial [] N7 (AeP k _ _ _ _ _ _ _ _ _ _ _ _ _ _ _ h2) [] [(2,Sc 1 v2),(3,Iz v3)] [] [(1,.grow (List.map (AV.int .u8) v2))] 2 ?_;refine AW.frz 1 (o := .grow (List.map (AV.int .u8) v2)) (by simp) rfl [(2,Lb v2)] [] ⟨(.l (by simp) (by simp) (by simp) (by simp)),trivial⟩ trivial ?_;refine WJ [(1,.ptr 0 0),(2,Lb v2),(3,Iz v3)] [(0,.cells [Iz v1.Author,Iz v1.Number,AV.str v1.Prev,Iz v1.Time,Iz v1.Kind,Iz v1.A,Iz v1.B,Iz v1.C,AV.lst false false (List.map (AV.int .i64) v1.Lst),Q0 v1.Pins,AV.str v1.Body,Iz v1.Seal_Key,AV.str v1.Seal_Digest])] 2 (by simp) ?_;obtain ⟨v4,v5,h3,hF⟩:=Aaa hF;refine CL trivial [] N8 (AeQ k _ _ _ h3) [2] [(4,.ptr 2 0),(5,Iz v5)] [] [(2,.cells [Iz v4.Author,Iz v4.Number,AV.str v4.Prev,Iz v4.Time,Iz v4.Kind,Iz v4.A,Iz v4.B,Iz v4.C,AV.lst false false (List.map (AV.int .i64) v4.Lst),Q0 v4.Pins,AV.str v4.Body,Iz v4.Seal_Key,AV.str v4.Seal_Digest])] 3 ?_;refine SR [] [none,none,none,some (20,true),some (20,true),none,none,some (24,true),some (24,true),some (24,true),some (24,true),none,none,some (30,true),some (30,true),none,none,some (34,true),some (34,true),some (34,true),none,none,some (39,true),some (39,true),some (39,true),none,none,some (44,true),some (44,true),some (44,true),none,none,some (49,true),some (49,true),some (49,true),some (49,true),none,none] fun _ _ g r=>?_;rcases IFo hF with ⟨h4,hF⟩|⟨h4,hF⟩
 ·have h4q : v3=0:=h4;have h4_:=Abf h4q;have h4__:=Abe h4q;rcases IFo hF with ⟨h5,hF⟩|⟨h5,hF⟩
  ·have h5q : v5=0:=h5;have h5_:=Abf h5q;have h5__:=Abe h5q;have F1:=A6 h4_ h4__ h4q h5_ h5__ h5q;try simp [F1]
   and_intros
   try any_goals first | omega | (simp [maxLen,F1] <;> omega)
   obtain ⟨v6,h6,hF⟩:=AaG hF;refine AC (Acz k _ _ _ _ _ _ _ _ _ _ _ _ _ _ h6) (.cons (.same (by simp [F1])) .nil) ?_;rcases IFo hF with ⟨h7,hF⟩|⟨h7,hF⟩
   ·have h7q : (v6.size : Int)=32:=h7;have h7_:=Abf h7q;have h7__:=Abe h7q;have F2:=A4 F1 h7_ h7__ h7q;try simp [F2]
    and_intros
    try any_goals first | omega | (simp [maxLen,F2] <;> omega)
    obtain ⟨v7,h8,hF⟩:=AaG hF;refine AC (AcR k _ _ _ _ _ _ _ _ _ _ _ _ _ _ h8) (.cons (.same (by simp [F2])) .nil) ?_;rcases IFo hF with ⟨h9,hF⟩|⟨h9,hF⟩
    ·have h9_:=h9;try simp at h9_
     have F3:=A3 F2 h9 h9_;try simp [F3]
     and_intros
     try any_goals first | omega | (simp [maxLen,F3] <;> omega)
     obtain ⟨v8,h10,hF⟩:=AaG hF;refine AC (Acd k _ _ _ _ _ _ _ _ _ _ _ _ _ _ h10) (.cons (.same (by simp [F3])) .nil) ?_;rcases IFo hF with ⟨h11,hF⟩|⟨h11,hF⟩
     ·have h11q : v8=0:=h11;have h11_:=Abf h11q;have h11__:=Abe h11q;rcases IFo hF with ⟨h12,hF⟩|⟨h12,hF⟩
      ·have h12q : v4.A=5:=h12;have h12_:=Abf h12q;have h12__:=Abe h12q;have F4:=A7 F3 h11_ h11__ h11q h12_ h12__ h12q;try simp [F4]
       and_intros
       try any_goals first | omega | (simp [maxLen,F4] <;> omega)
       obtain ⟨v9,h13,hF⟩:=AaG hF;refine AC (AdI k _ _ _ _ _ _ _ _ _ _ _ _ _ _ _ _ _ _ _ _ _ _ _ _ _ _ _ h13) (.cons (.same (by simp [F4])) (.cons (.same (by simp [F4])) .nil)) ?_;rcases IFo hF with ⟨h14,hF⟩|⟨h14,hF⟩
       ·have h14_:=h14;try simp at h14_
        have F5:=A3 F4 h14 h14_;try simp [F5]
        and_intros
        try any_goals first | omega | (simp [maxLen,F5] <;> omega)
        obtain ⟨v10,h15,hF⟩:=AaG hF;refine AC (AdI k _ _ _ _ _ _ _ _ _ _ _ _ _ _ _ _ _ _ _ _ _ _ _ _ _ _ _ h15) (.cons (.same (by simp [F5])) (.cons (.agg (.cons (.same (by simp [F5])) (.cons (.same (by simp [F5])) (.cons (.same (by simp [F5])) (.cons (.same (by simp [F5])) (.cons (.same (by simp [F5])) (.cons (.same (by simp [F5])) (.cons (.same (by simp [F5])) (.cons (.same (by simp [F5])) (.cons (Coe.fl (by simp [F5])) (.cons (Coe.fl (by simp [F5])) (.cons (.same (by simp [F5])) (.cons (.same (by simp [F5])) (.cons (.same (by simp [F5])) .nil)))))))))))))) .nil)) ?_;refine TL F5 g r [1,3,4,5] [(0,.bool (!v10))] [0,2] [] 3 ?_;cases hF;exact AW.ret (hQ _ _ _ (by simp [Try.f19,F5]) (AaE (by simp [F5]))).1
       ·have h14_:=h14;try simp at h14_
        have F6:=A3 F4 h14 h14_;refine TL F6 g r [1,3,4,5] [(0,.bool false)] [0,2] [] 3 ?_;cases hF;exact AW.ret (hQ _ _ _ (by simp [Try.f19,F6]) (AaE (by simp [F6]))).1
      ·have h12_:=Aba h12;have h12__:=Abd h12;have F7:=A7 F3 h11_ h11__ h11q h12 h12_ h12__;refine TL F7 g r [1,3,4,5] [(0,.bool false)] [0,2] [] 3 ?_;cases hF;exact AW.ret (hQ _ _ _ (by simp [Try.f19,F7]) (AaE (by simp [F7]))).1
     ·have h11_:=Aba h11;have h11__:=Abd h11;have F8:=A4 F3 h11 h11_ h11__;refine TL F8 g r [1,3,4,5] [(0,.bool false)] [0,2] [] 3 ?_;cases hF;exact AW.ret (hQ _ _ _ (by simp [Try.f19,F8]) (AaE (by simp [F8]))).1
    ·have h9_:=h9;try simp at h9_
     have F9:=A3 F2 h9 h9_;refine TL F9 g r [1,3,4,5] [(0,.bool false)] [0,2] [] 3 ?_;cases hF;exact AW.ret (hQ _ _ _ (by simp [Try.f19,F9]) (AaE (by simp [F9]))).1
   ·have h7_:=Aba h7;have h7__:=Abd h7;have F10:=A4 F1 h7 h7_ h7__;refine TL F10 g r [1,3,4,5] [(0,.bool false)] [0,2] [] 3 ?_;cases hF;exact AW.ret (hQ _ _ _ (by simp [Try.f19,F10]) (AaE (by simp [F10]))).1
  ·have h5_:=Aba h5;have h5__:=Abd h5;have F11:=A6 h4_ h4__ h4q h5 h5_ h5__;refine TL F11 g r [1,3,4,5] [(0,.bool false)] [0,2] [] 3 ?_;cases hF;exact AW.ret (hQ _ _ _ (by simp [Try.f19,F11]) (AaE (by simp [F11]))).1
 ·have h4_:=Aba h4;have h4__:=Abd h4;have F12:=A3 h4 h4_ h4__;refine TL F12 g r [1,3,4,5] [(0,.bool false)] [0,2] [] 3 ?_;cases hF;exact AW.ret (hQ _ _ _ (by simp [Try.f19,F12]) (AaE (by simp [F12]))).1
theorem AkM (k : Nat) (v0 v1 : (List Int)) (v2 : Int) (hF : AgM k v0=some (v1,v2)) :
 AbP Try.prog 24 [AV.lst false false (List.map (AV.int .i64) v0)] [] (AV.ptr 0 0) [some (.cells [AV.lst false false (List.map (AV.int .i64) v1),AV.int .i64 v2])]:=by
 unfold AgM at hF;refine EN Try.func24 ?_;intro c0 w0 Q h0 hQ
 refine WJ [(0,Lz v0)] [] 0 (by simp) ?_;refine SW trivial [] [none] [] [] [] [] 0 ?_;refine SW trivial [] N4 [0] [(2,.ptr 0 0)] [] [(0,.cells [Lz v0,Iz 0])] 1 ?_;simp only [Option.some.injEq,Prod.mk.injEq] at hF;obtain ⟨e0,e1⟩:=hF;subst e0 e1;refine AW.ret (hQ _ _ _ ?_ (AaE ?_)).1
 ·simp [Try.f24]
 ·simp
theorem Adf (k : Nat) (v0 v1 v2 : Int) (hF : Acb k v0 v1=some v2) :
 AbP Try.prog 30 [AV.int .i64 v0,AV.int .i64 v1] [] (AV.int .i64 v2) []:=by
 unfold Acb at hF;refine EN Try.func30 ?_;intro c0 w0 Q h0 hQ
 refine WJ [(0,Iz v0),(1,Iz v1)] [] 0 (by simp) ?_;refine SW trivial [] [none] [] [] [] [] 0 ?_;refine AW.seq fun K0 hK0=>?_;refine SW trivial [] N2 [] [(6,.bool (decide (v1<1)))] [] [] 0 ?_;rcases IFo hF with ⟨h1,hF⟩|⟨h1,hF⟩
 ·have h1_:=h1;try simp at h1_
  refine CT (by simp [h1,h1_] <;> omega) ?_;refine SW (A2 h1 h1_) [] [none] [0,1,6] [(4,Iz 0)] [] [] 0 ?_;cases hF;exact AW.ret (hQ _ _ _ (by simp [Try.f30,h1,h1_]) (AaE (by simp [h1,h1_]))).1
 ·have h1_:=h1;try simp at h1_
  refine CF (by simp [h1,h1_] <;> omega) ?_;refine AW.skip (hK0 _ _ _ ?_);refine SR [] N4 fun _ _ g r=>?_;obtain ⟨h2,hF⟩:=AaP hF;have h2_:=h2;try simp at h2_
  have F1:=A4 h1 h1_ h2 h2_;refine TL F1 g r [0,6] [(0,Iz (Int.tmod v0 v1))] [] [] 0 ?_;refine AW.midF (α:=Int) (fun v3=>Acb.J1 k v3=some v2) (fun v3=>[(0,Iz v3)]) (fun v3=>[]) 0 (fun K1 hK1=>?_) ?_
  ·refine SW F1 [] N2 [] [(11,.bool (decide (Int.tmod v0 v1<0)))] [] [] 0 ?_;rcases IFo hF with ⟨h3,hF⟩|⟨h3,hF⟩
   ·have h3_:=h3;try simp at h3_
    have F2:=A3 F1 h3 h3_;refine CT (by simp [F2] <;> omega) ?_;refine RG [] N4 fun _ _ g r=>?_;try simp [F2]
    and_intros <;> first | exact GK g | apply r | omega | (simp [maxLen,F2] <;> omega)
    refine hK1 _ _ _ ?_;exact JN (IntKind.wrap .i64 (Int.tmod v0 v1+v1)) hF (by simp [F2]) (by simp [F2])
   ·have h3_:=h3;try simp at h3_
    have F3:=A3 F1 h3 h3_;refine CF (by simp [F3] <;> omega) ?_;refine AW.skip (hK1 _ _ _ ?_);exact JN (Int.tmod v0 v1) hF (by simp [F3]) (by simp [F3])
  ·rintro v3 hF
   try dsimp only at hF
   unfold Acb.J1 at hF;refine SW F1 [] N2 [0] [(4,Iz v3)] [] [] 0 ?_;cases hF;exact AW.ret (hQ _ _ _ (by simp [Try.f30,F1]) (AaE (by simp [F1]))).1
theorem Aas (k : Nat) (v0 : (List Int)) (v1 v2 v3 v4 : Int) (hF : Aat k v0 v1 v2=some (v3,v4)) :
 AbP Try.prog 26 [AV.ptr 0 0,AV.int .i64 v2] [.cells [AV.lst false false (List.map (AV.int .i64) v0),AV.int .i64 v1]] (AV.int .i64 v3) [some (.cells [AV.lst false false (List.map (AV.int .i64) v0),AV.int .i64 v4])]:=by
 unfold Aat at hF;refine EN Try.func26 ?_;intro c0 w0 Q h0 hQ
 refine WJ [(0,.ptr 0 0),(1,Iz v2)] [(0,.cells [Lz v0,Iz v1])] 1 (by simp) ?_;refine SW trivial [] [none] [] [] [] [] 1 ?_;refine AW.seq fun K0 hK0=>?_;refine SW trivial [] N10 [] [(14,.bool (decide ((v0.length : Int)≤v1)))] [] [] 1 ?_;rcases IFo hF with ⟨h1,hF⟩|⟨h1,hF⟩
 ·have h1_:=h1;try simp at h1_
  refine CT (by simp [h1,h1_] <;> omega) ?_;refine SW (A2 h1 h1_) [] [none] [0,1,14] [(4,Iz 0)] [] [] 1 ?_;simp only [Option.some.injEq,Prod.mk.injEq] at hF;obtain ⟨e0,e1⟩:=hF;subst e0 e1;exact AW.ret (hQ _ _ _ (by simp [Try.f26,h1,h1_]) (AaE (by simp [h1,h1_]))).1
 ·have h1_:=h1;try simp at h1_
  refine CF (by simp [h1,h1_] <;> omega) ?_;refine AW.skip (hK0 _ _ _ ?_);refine SW (A2 h1 h1_) [] N8 [14] [] [0] [(0,.cells [Lz v0,Iz (IntKind.wrap .i64 (v1+1))])] 1 ?_;refine SR [] N14 fun _ _ g r=>?_;obtain ⟨v5,h2,h3,h4,hF⟩:=Aai hF;have h4_:=AbA h4;try simp at h4_
  have h3_:=h3;try simp at h3_
  have F1:=A7 h1 h1_ h2 h3 h4 h4_ h3_;try simp [F1]
  and_intros
  try any_goals first | omega | (simp [maxLen,F1] <;> omega)
  obtain ⟨v6,h5,hF⟩:=AaG hF;refine AC (Adf k _ _ _ h5) (.cons (.same (by simp [F1])) (.cons (.same (by simp [F1])) .nil)) ?_;refine TL F1 g r [0,1] [(4,Iz v6)] [] [] 1 ?_;simp only [Option.some.injEq,Prod.mk.injEq] at hF;obtain ⟨e0,e1⟩:=hF;subst e0 e1;exact AW.ret (hQ _ _ _ (by simp [Try.f26,F1]) (AaE (by simp [F1]))).1
theorem Abb (k : Nat) (v0 : (List Int)) (v1 : Int) (v2 : (List Int)) (v3 v4 : Int) (hF : AbS k v0 v1 v2=some (v3,v4)) :
 AbP Try.prog 28 [AV.ptr 0 0,AV.lst false false (List.map (AV.int .i64) v2)] [.cells [AV.lst false false (List.map (AV.int .i64) v0),AV.int .i64 v1]] (AV.int .i64 v3) [some (.cells [AV.lst false false (List.map (AV.int .i64) v0),AV.int .i64 v4])]:=by
 unfold AbS at hF;refine EN Try.func28 ?_;intro c0 w0 Q h0 hQ
 refine WJ [(0,.ptr 0 0),(1,Lz v2)] [(0,.cells [Lz v0,Iz v1])] 1 (by simp) ?_;refine SW trivial [] [none] [] [] [] [] 1 ?_;refine SR [] N8 fun _ _ g r=>?_;try simp
 and_intros
 try any_goals first | omega | (simp [maxLen] <;> omega)
 obtain ⟨v5,v6,h1,hF⟩:=Aaa hF;refine AaO (Aas k _ _ _ _ _ h1) (by simp) [0] [] [0] rfl (.cons (.same (by simp)) (.cons (.same (by simp)) .nil)) (by simp) (by decide) (by simp) (by simp) (.inl rfl) (by simp) (by simp) ?_;obtain ⟨v7,h2,h3,h4,hF⟩:=Aai hF;have h4_:=AbA h4;try simp at h4_
 have h3_:=h3;try simp at h3_
 have F1:=A5 h2 h3 h4 h4_ h3_;refine TL F1 g r [0,1] [(4,Iz v7)] [0] [(0,.cells [Lz v0,Iz v6])] 1 ?_;simp only [Option.some.injEq,Prod.mk.injEq] at hF;obtain ⟨e0,e1⟩:=hF;subst e0 e1;exact AW.ret (hQ _ _ _ (by simp [Try.f28,F1]) (AaE (by simp [F1]))).1
theorem AhS (k : Nat) (v0 : (List Int)) (v1 v2 : Int) (v3 : Bool) (v4 : Int) (hF : AdZ k v0 v1 v2=some (v3,v4)) :
 AbP Try.prog 34 [AV.ptr 0 0,AV.int .i64 v2] [.cells [AV.lst false false (List.map (AV.int .i64) v0),AV.int .i64 v1]] (AV.bool v3) [some (.cells [AV.lst false false (List.map (AV.int .i64) v0),AV.int .i64 v4])]:=by
 unfold AdZ at hF;refine EN Try.func34 ?_;intro c0 w0 Q h0 hQ
 refine WJ [(0,.ptr 0 0),(1,Iz v2)] [(0,.cells [Lz v0,Iz v1])] 1 (by simp) ?_;refine SW trivial [] [none] [] [] [] [] 1 ?_;refine SR [] N7 fun _ _ g r=>?_;try simp
 and_intros
 try any_goals first | omega | (simp [maxLen] <;> omega)
 obtain ⟨v5,v6,h1,hF⟩:=Aaa hF;refine AaO (Aas k _ _ _ _ _ h1) (by simp) [0] [] [0] rfl (.cons (.same (by simp)) (.cons (.same (by simp)) .nil)) (by simp) (by decide) (by simp) (by simp) (.inl rfl) (by simp) (by simp) ?_;refine TL trivial g r [0,1] [(4,.bool (v5==(IntKind.wrap .i64 (v2-1))))] [0] [(0,.cells [Lz v0,Iz v6])] 1 ?_;simp only [Option.some.injEq,Prod.mk.injEq] at hF;obtain ⟨e0,e1⟩:=hF;subst e0 e1;refine AW.ret (hQ _ _ _ ?_ (AaE ?_)).1
 ·simp [Try.f34]
 ·simp
theorem Ac0 (k : Nat) (v0 : (List Int)) (v1 : Int) (v2 : ByteArray) (v3 : Int) (hF : Abz k v0 v1=some (v2,v3)) :
 AbP Try.prog 29 [AV.ptr 0 0] [.cells [AV.lst false false (List.map (AV.int .i64) v0),AV.int .i64 v1]] (AV.str v2) [some (.cells [AV.lst false false (List.map (AV.int .i64) v0),AV.int .i64 v3])]:=by
 unfold Abz at hF;refine EN Try.func29 ?_;intro c0 w0 Q h0 hQ
 refine WJ [(0,.ptr 0 0)] [(0,.cells [Lz v0,Iz v1])] 1 (by simp [-List.reduceReplicate,AaB,AaC,AaA]) ?_;refine SQ [] [none] fun _ _ g r=>?_;try simp [-List.reduceReplicate,AaB,AaC,AaA]
 and_intros <;> first | exact GK g | apply r | omega | (simp [-List.reduceReplicate,AaB,AaC,AaA,maxLen] <;> omega)
 refine WJ [(0,.ptr 0 0)] [(0,.cells [Lz v0,Iz v1])] 1 (by simp [-List.reduceReplicate,AaB,AaC,AaA]) ?_;refine SQ [4] N2 fun _ _ g r=>?_;obtain ⟨h1,hF⟩:=AaP hF;obtain ⟨v4,h2,hF⟩:=AeJ hF;have h2l : v4.length=32:=by rw [← h2]; exact List.length_replicate
 have h2m : List.replicate 32 (AV.int .u8 0)=List.map (AV.int .u8) v4:=by rw [← h2]; exact (List.map_replicate ..).symm
 have h2n:=AfU h2l (by decide);have F1:=A4 h1 h2l h2m h2n;try simp [-List.reduceReplicate,AaB,AaC,AaA,F1]
 and_intros <;> first | exact GK g | apply r | omega | (simp [-List.reduceReplicate,AaB,AaC,AaA,maxLen,F1] <;> omega)
 refine WJ [(0,.ptr 0 0),(3,.slc 1 0 1 v4.length true)] [(0,.cells [Lz v0,Iz v1]),(1,.cells (List.map (AV.int .u8) v4))] 2 (by simp [-List.reduceReplicate,AaB,AaC,AaA,F1]) ?_;refine SQ [] N12 fun _ _ g r=>?_;try simp [-List.reduceReplicate,AaB,AaC,AaA,F1]
 and_intros
 try any_goals first | omega | (simp [-List.reduceReplicate,AaB,AaC,AaA,maxLen,F1] <;> omega)
 obtain ⟨v5,v6,h3,hF⟩:=Aaa hF;refine AaO (Aas k _ _ _ _ _ h3) (by simp) [0] [] [0] rfl (.cons (.same (by simp [-List.reduceReplicate,AaB,AaC,AaA,F1])) (.cons (.same (by simp [-List.reduceReplicate,AaB,AaC,AaA,F1])) .nil)) (by simp [-List.reduceReplicate,AaB,AaC,AaA,F1]) (by decide) (by simp) (by simp) (.inl rfl) (by simp) (by simp) ?_;try simp [-List.reduceReplicate,AaB,AaC,AaA,F1]
 and_intros
 try any_goals first | omega | (simp [-List.reduceReplicate,AaB,AaC,AaA,maxLen,F1] <;> omega)
 obtain ⟨v7,v8,h4,hF⟩:=Aaa hF;refine AaO (Aas k _ _ _ _ _ h4) (by simp) [0] [] [0] rfl (.cons (.same (by simp [-List.reduceReplicate,AaB,AaC,AaA,F1])) (.cons (.same (by simp [-List.reduceReplicate,AaB,AaC,AaA,F1])) .nil)) (by simp [-List.reduceReplicate,AaB,AaC,AaA,F1]) (by decide) (by simp) (by simp) (.inl rfl) (by simp) (by simp) ?_;obtain ⟨⟨h5,h6⟩,hF⟩:=AaP hF;have h6_:=Aa8 h6;obtain ⟨⟨h7,h8⟩,hF⟩:=AaP hF;have h8_:=Aa8 h8;have F2:=A7 F1 h5 h6 h6_ h7 h8 h8_;try simp [-List.reduceReplicate,AaB,AaC,AaA,F2]
 and_intros <;> first | exact GK g | apply r | omega | (simp [-List.reduceReplicate,AaB,AaC,AaA,maxLen,F2] <;> omega)
 refine WJ [(3,.slc 1 0 1 (((v4.set (0 : Int).toNat (IntKind.wrap .u8 v5)).set (31 : Int).toNat (IntKind.wrap .u8 v7)).length) true)] [(0,.cells [Lz v0,Iz v8]),(1,.cells (List.map (AV.int .u8) ((v4.set (0 : Int).toNat (IntKind.wrap .u8 v5)).set (31 : Int).toNat (IntKind.wrap .u8 v7))))] 2 (by simp [-List.reduceReplicate,AaB,AaC,AaA,F2]) ?_;refine AW.frz 1 (o := .cells (List.map (AV.int .u8) ((v4.set (0 : Int).toNat (IntKind.wrap .u8 v5)).set (31 : Int).toNat (IntKind.wrap .u8 v7)))) (by simp [-List.reduceReplicate,AaB,AaC,AaA,F2]) rfl [(3,.lst false true (List.map (AV.int .u8) ((v4.set (0 : Int).toNat (IntKind.wrap .u8 v5)).set (31 : Int).toNat (IntKind.wrap .u8 v7))))] [] ⟨(.l (by simp [-List.map_set]) (by simp [-List.map_set]) (by simp [-List.map_set]) (by simp [-List.map_set])),trivial⟩ trivial ?_;refine WJ [(3,.lst false true (List.map (AV.int .u8) ((v4.set (0 : Int).toNat (IntKind.wrap .u8 v5)).set (31 : Int).toNat (IntKind.wrap .u8 v7))))] [(0,.cells [Lz v0,Iz v8])] 2 (by simp [-List.reduceReplicate,AaB,AaC,AaA,F2]) ?_;refine SQ [] N3 fun _ _ g r=>?_;try simp [-List.reduceReplicate,AaB,AaC,AaA,F2]
 and_intros <;> first | exact GK g | apply r | omega | (simp [-List.reduceReplicate,AaB,AaC,AaA,maxLen,F2] <;> omega)
 refine WJ [(2,.str (ofI ((v4.set (0 : Int).toNat (IntKind.wrap .u8 v5)).set (31 : Int).toNat (IntKind.wrap .u8 v7))))] [(0,.cells [Lz v0,Iz v8])] 2 (by simp [-List.reduceReplicate,AaB,AaC,AaA,F2]) ?_;simp only [Option.some.injEq,Prod.mk.injEq] at hF;obtain ⟨e0,e1⟩:=hF;subst e0 e1;exact AW.ret (hQ _ _ _ (by simp [Try.f29,F2]) (AaE (by simp [F2]))).1
theorem Agb (k : Nat) (v0 : (List Int)) (v1 v2 : Int) (v3 : (List Int)) (v4 : Int) (hF : AbO k v0 v1 v2=some (v3,v4)) :
 AbP Try.prog 61 [AV.ptr 0 0,AV.int .i64 v2] [.cells [AV.lst false false (List.map (AV.int .i64) v0),AV.int .i64 v1]] (Sc 1 v3) [some (.cells [AV.lst false false (List.map (AV.int .i64) v0),AV.int .i64 v4]),some (.grow (List.map (AV.int .u8) v3))]:=by
 unfold AbO at hF;refine EN Try.func61 ?_;intro c0 w0 Q h0 hQ
 refine WJ [(0,.ptr 0 0),(1,Iz v2)] [(0,.cells [Lz v0,Iz v1])] 1 (by simp) ?_;refine SW trivial [] [none] [] [] [] [] 1 ?_;refine SW trivial [] [none] [] [(5,.lst true true (List.map (AV.int .u8) ([] : List Int)))] [] [] 1 ?_;refine AW.seq fun K0 hK0=>?_;refine SR [] N5 fun _ _ g r=>?_;try simp
 and_intros
 try any_goals first | omega | (simp [maxLen] <;> omega)
 obtain ⟨v5,v6,h1,hF⟩:=Aaa hF;refine AaO (Aas k _ _ _ _ _ h1) (by simp) [0] [] [0] rfl (.cons (.same (by simp)) (.cons (.same (by simp)) .nil)) (by simp) (by decide) (by simp) (by simp) (.inl rfl) (by simp) (by simp) ?_;refine TL trivial g r [1] [(6,Iz v5)] [0] [(0,.cells [Lz v0,Iz v6])] 1 ?_;refine AW.block ?_;refine AW.own' 5 1 true (by simp) (by decide) ?_;refine AW.loopF (α:=(Int×Int×(List Int))) (fun n (v7,v8,v9)=>AbO.L1 k v0 n v7 v8 v9=some (v3,v4)) (fun (v7,v8,v9)=>[(0,.ptr 0 0),(5,Sc 1 v9),(6,Iz v7)]) (fun (v7,v8,v9)=>[(0,.cells [Lz v0,Iz v8]),(1,.grow (List.map (AV.int .u8) v9))]) 2 k ((v5,v6,([] : List Int))) hF (by simp) (by simp) (by simp) ?_;rintro (_|n1) ⟨v7,v8,v9⟩ hF K1 hK1
 ·try dsimp only at hF
  rw [AbO.L1] at hF; cases hF
 try dsimp only at hF
 rw [AbO.L1] at hF;refine AW.seq fun K2 hK2=>?_;refine SW trivial [] N2 [] [(12,.bool (decide (0<v7)))] [] [] 2 ?_;rcases IFo hF with ⟨h2,hF⟩|⟨h2,hF⟩
 ·have h2_:=h2;try simp at h2_
  refine CT (by simp [h2,h2_] <;> omega) ?_;refine AW.skip (hK2 _ _ _ ?_);refine AW.seq fun K3 hK3=>?_;refine AW.block ?_;refine RG [] N8 fun _ _ g r=>?_;try simp [h2,h2_]
  and_intros
  try any_goals first | omega | (simp [h2,h2_,maxLen] <;> omega)
  obtain ⟨v10,v11,h3,hF⟩:=Aaa hF;refine AaO (Abb k _ _ _ _ _ h3) (by simp) [0] [] [0] rfl (.cons (.same (by simp [h2,h2_])) (.cons (Coe.fl (by simp [h2,h2_])) .nil)) (by simp [h2,h2_]) (by decide) (by simp) (by simp) (.inl rfl) (by simp) (by simp) ?_;obtain ⟨h4,hF⟩:=AaP hF;have h4_:=h4;try simp at h4_
  have F1:=A3 h2 h2_ h4;try simp [F1]
  and_intros <;> first | exact GK g | apply r | omega | (simp [maxLen,F1] <;> omega)
  refine hK3 _ _ _ ?_;refine WK [(0,.ptr 0 0),(5,.slc 2 0 1 ((v9++([IntKind.wrap .u8 v10] : List Int)).length) false),(6,Iz v7)] [(0,.cells [Lz v0,Iz v11]),(2,.grow (List.map (AV.int .u8) (v9++([IntKind.wrap .u8 v10] : List Int))))] 3 (by simp [F1] <;> omega) (by simp [F1]) ?_;refine RG [] N3 fun _ _ g r=>?_;try simp [F1]
  and_intros <;> first | exact GK g | apply r | omega | (simp [maxLen,F1] <;> omega)
  refine hK1 _ _ _ ?_;refine Can.weak [(0,.ptr 0 0),(5,.slc 2 0 1 ((v9++([IntKind.wrap .u8 v10] : List Int)).length) false),(6,Iz (IntKind.wrap .i64 (v7-1)))] [(0,.cells [Lz v0,Iz v11]),(2,.grow (List.map (AV.int .u8) (v9++([IntKind.wrap .u8 v10] : List Int))))] 3 (by simp [F1] <;> omega) (by simp [F1]) (by simp) ?_;refine Can.ren (m:=1) h0 [(0,0),(1,2)] [(0,.ptr 0 0),(5,.slc 1 0 1 ((v9++([IntKind.wrap .u8 v10] : List Int)).length) false),(6,Iz (IntKind.wrap .i64 (v7-1)))] [(0,.cells [Lz v0,Iz v11]),(1,.grow (List.map (AV.int .u8) (v9++([IntKind.wrap .u8 v10] : List Int))))] 2 (by decide) (by decide) (by decide) rfl (by simp [F1]) (by simp [F1]) ?_;exact NX (k':=n1) ((IntKind.wrap .i64 (v7-1),v11,v9++([IntKind.wrap .u8 v10] : List Int))) hF (by simp [F1]) (by simp [F1])
 ·have h2_:=h2;try simp at h2_
  refine CF (by simp [h2,h2_] <;> omega) ?_;refine AW.exit ?_;try simp
  refine hK0 _ _ _ ?_;refine SW (A2 h2 h2_) [] N2 [0,5,6] [(4,Sc 1 v9)] [] [] 2 ?_;simp only [Option.some.injEq,Prod.mk.injEq] at hF;obtain ⟨e0,e1⟩:=hF;subst e0 e1;exact AW.ret (hQ _ _ _ (by simp [Try.f61,h2,h2_]) (AaE (by simp [h2,h2_]))).1
abbrev Aap  : Aan := .cells [Iz 0,Iz 0,AV.str (ByteArray.mk #[]),Iz 0,Iz 0,Iz 0,Iz 0,Iz 0,AV.slc 2 0 1 (([] : List Int).length) false,AV.slc 3 0 3 (([] : List AaD).length) false,AV.str (ByteArray.mk #[]),Iz 0,AV.str (ByteArray.mk #[])]
abbrev Ach  : Aan := .cells [Iz 0,Iz 0,AV.str (ByteArray.mk #[]),Iz 0,Iz 0,Iz 0,Iz 0,Iz 0,AV.lst true true (List.map (AV.int .i64) ([] : List Int)),AV.lst true true (List.map AaD.av ([] : List AaD)),AV.str (ByteArray.mk #[]),Iz 0,AV.str (ByteArray.mk #[])]
theorem Aez (k : Nat) (v0 : (List Int)) (v1 v2 v3 : Int) (v4 : AaI) (v5 : Int) (hF : AaR k v0 v1 v2 v3=some (v4,v5)) :
 AbP Try.prog 25 [AV.ptr 0 0,AV.int .i64 v2,AV.int .i64 v3] [.cells [AV.lst false false (List.map (AV.int .i64) v0),AV.int .i64 v1]] (AV.agg [AV.int .i64 v4.Author,AV.int .i64 v4.Number,AV.str v4.Prev,AV.int .i64 v4.Time,AV.int .i64 v4.Kind,AV.int .i64 v4.A,AV.int .i64 v4.B,AV.int .i64 v4.C,AV.slc 1 0 1 v4.Lst.length false,AV.slc 2 0 3 v4.Pins.length false,AV.str v4.Body,AV.int .i64 v4.Seal_Key,AV.str v4.Seal_Digest]) [some (.cells [AV.lst false false (List.map (AV.int .i64) v0),AV.int .i64 v5]),some (Gi v4.Lst),some (.grow (AaM (List.map AaD.av v4.Pins)))]:=by
 unfold AaR at hF;refine EN Try.func25 ?_;intro c0 w0 Q h0 hQ
 refine WJ [(0,.ptr 0 0),(1,Iz v2),(2,Iz v3)] [(0,.cells [Lz v0,Iz v1])] 1 (by simp) ?_;refine SW trivial [] [none] [] [(6,.ptr 1 0)] [] [(1,Ach )] 2 ?_;refine SR [] N8 fun _ _ g r=>?_;try simp
 and_intros
 try any_goals first | omega | (simp [maxLen] <;> omega)
 obtain ⟨v6,v7,h1,hF⟩:=Aaa hF;refine AaO (Abb k _ _ _ _ _ h1) (by simp) [0] [] [0] rfl (.cons (.same (by simp)) (.cons (Coe.fl (by simp)) .nil)) (by simp) (by decide) (by simp) (by simp) (.inl rfl) (by simp) (by simp) ?_;refine TL trivial g r [] [(7,.ptr 2 0)] [0] [(0,.cells [Lz v0,Iz v7]),(2,.cells [Iz v2,Iz 0,AV.str (ByteArray.mk #[]),Iz v3,Iz v6,Iz 0,Iz 0,Iz 0,AV.lst true true (List.map (AV.int .i64) ([] : List Int)),AV.lst true true (List.map AaD.av ([] : List AaD)),AV.str (ByteArray.mk #[]),Iz 0,AV.str (ByteArray.mk #[])])] 3 ?_;refine AW.midF (α:=(Int×Int×Int×(List Int)×(List AaD)×ByteArray×Int)) (fun (v8,v9,v10,v11,v12,v13,v14)=>AaR.J1 k v2 v3 v6 v8 v9 v10 v11 v12 v13 v14=some (v4,v5)) (fun (v8,v9,v10,v11,v12,v13,v14)=>[(6,.ptr 1 0),(7,.ptr 4 0)]) (fun (v8,v9,v10,v11,v12,v13,v14)=>[(0,.cells [Lz v0,Iz v14]),(1,Aap ),(2,Gi ([] : List Int)),(3,.grow (AaM (List.map AaD.av ([] : List AaD)))),(4,.cells [Iz v2,Iz 0,AV.str (ByteArray.mk #[]),Iz v3,Iz v6,Iz v8,Iz v9,Iz v10,Sc 5 v11,AV.slc 6 0 3 v12.length false,AV.str v13,Iz 0,AV.str (ByteArray.mk #[])]),(5,Gi v11),(6,.grow (AaM (List.map AaD.av v12)))]) 7 (fun K0 hK0=>?_) ?_
 ·refine SW trivial [] N2 [] [(16,Iz v6)] [] [] 3 ?_;refine AW.block ?_;refine SW trivial [] N2 [] [(57,.bool (v6==1))] [] [] 3 ?_;rcases IFo hF with ⟨h2,hF⟩|⟨h2,hF⟩
  ·have h2q : v6=1:=h2;have h2_:=Abf h2q;have h2__:=Abe h2q;have F1:=A3 h2_ h2__ h2q;refine CT (by simp [F1] <;> omega) ?_;refine SR [] N20 fun _ _ g r=>?_;try simp [F1]
   and_intros
   try any_goals first | omega | (simp [maxLen,F1] <;> omega)
   obtain ⟨v15,v16,h3,hF⟩:=Aaa hF;refine AaO (Aas k _ _ _ _ _ h3) (by simp) [0] [] [0] rfl (.cons (.same (by simp [F1])) (.cons (.same (by simp [F1])) .nil)) (by simp [F1]) (by decide) (by simp) (by simp) (.inl rfl) (by simp) (by simp) ?_;try simp [F1]
   and_intros
   try any_goals first | omega | (simp [maxLen,F1] <;> omega)
   obtain ⟨v17,h4,hF⟩:=AaG hF;refine AC (Adf k _ _ _ h4) (.cons (.same (by simp [F1])) (.cons (.same (by simp [F1])) .nil)) ?_;try simp [F1]
   and_intros
   try any_goals first | omega | (simp [maxLen,F1] <;> omega)
   obtain ⟨v18,v19,h5,hF⟩:=Aaa hF;refine AaO (Aas k _ _ _ _ _ h5) (by simp) [0] [] [0] rfl (.cons (.same (by simp [F1])) (.cons (.same (by simp [F1])) .nil)) (by simp [F1]) (by decide) (by simp) (by simp) (.inl rfl) (by simp) (by simp) ?_;try simp [F1]
   and_intros
   try any_goals first | omega | (simp [maxLen,F1] <;> omega)
   obtain ⟨v20,v21,h6,hF⟩:=Aaa hF;refine AaO (Abb k _ _ _ _ _ h6) (by simp) [0] [] [0] rfl (.cons (.same (by simp [F1])) (.cons (Coe.fl (by simp [F1])) .nil)) (by simp [F1]) (by decide) (by simp) (by simp) (.inl rfl) (by simp) (by simp) ?_;refine TL F1 g r [0,2,16,57] [] [0,2] [(0,.cells [Lz v0,Iz v21]),(2,.cells [Iz v2,Iz 0,AV.str (ByteArray.mk #[]),Iz v3,Iz v6,Iz v17,Iz (IntKind.wrap .i64 (1+v18)),Iz (IntKind.wrap .i64 (v3+v20)),AV.lst true true (List.map (AV.int .i64) ([] : List Int)),AV.lst true true (List.map AaD.av ([] : List AaD)),AV.str (ByteArray.mk #[]),Iz 0,AV.str (ByteArray.mk #[])])] 3 ?_;refine SW F1 [] N4 [] [(79,.bool (v17==v2))] [] [] 3 ?_;rcases IFo hF with ⟨h7,hF⟩|⟨h7,hF⟩
   ·have h7q : v17=v2:=h7;have h7_:=Abf h7q;have h7__:=Abe h7q;have F2:=A3 F1 h7_ h7__;refine CT (by simp [F2] <;> omega) ?_;refine RG [] N4 fun _ _ g r=>?_;try simp [F2]
    and_intros <;> first | exact GK g | apply r | omega | (simp [maxLen,F2] <;> omega)
    refine hK0 _ _ _ ?_;refine Can.weak [(6,.ptr 1 0),(7,.ptr 2 0)] [(0,.cells [Lz v0,Iz v21]),(1,Ach ),(2,.cells [Iz v2,Iz 0,AV.str (ByteArray.mk #[]),Iz v3,Iz v6,Iz (IntKind.wrap .i64 (v2+1)),Iz (IntKind.wrap .i64 (1+v18)),Iz (IntKind.wrap .i64 (v3+v20)),AV.lst true true (List.map (AV.int .i64) ([] : List Int)),AV.lst true true (List.map AaD.av ([] : List AaD)),AV.str (ByteArray.mk #[]),Iz 0,AV.str (ByteArray.mk #[])])] 3 (by simp [F2]) (by simp [F2]) (by simp) ?_;refine Can.ownC 1 8 1 true (cs:=[Iz 0,Iz 0,AV.str (ByteArray.mk #[]),Iz 0,Iz 0,Iz 0,Iz 0,Iz 0,AV.lst true true (List.map (AV.int .i64) ([] : List Int)),AV.lst true true (List.map AaD.av ([] : List AaD)),AV.str (ByteArray.mk #[]),Iz 0,AV.str (ByteArray.mk #[])]) (by simp [F2]) (by simp) ?_;refine Can.ownC 1 9 3 true (cs:=[Iz 0,Iz 0,AV.str (ByteArray.mk #[]),Iz 0,Iz 0,Iz 0,Iz 0,Iz 0,AV.slc 3 0 1 (([] : List Int).length) false,AV.lst true true (List.map AaD.av ([] : List AaD)),AV.str (ByteArray.mk #[]),Iz 0,AV.str (ByteArray.mk #[])]) (by simp [F2]) (by simp) ?_;refine Can.ownC 2 8 1 true (cs:=[Iz v2,Iz 0,AV.str (ByteArray.mk #[]),Iz v3,Iz v6,Iz (IntKind.wrap .i64 (v2+1)),Iz (IntKind.wrap .i64 (1+v18)),Iz (IntKind.wrap .i64 (v3+v20)),AV.lst true true (List.map (AV.int .i64) ([] : List Int)),AV.lst true true (List.map AaD.av ([] : List AaD)),AV.str (ByteArray.mk #[]),Iz 0,AV.str (ByteArray.mk #[])]) (by simp [F2]) (by simp) ?_;refine Can.ownC 2 9 3 true (cs:=[Iz v2,Iz 0,AV.str (ByteArray.mk #[]),Iz v3,Iz v6,Iz (IntKind.wrap .i64 (v2+1)),Iz (IntKind.wrap .i64 (1+v18)),Iz (IntKind.wrap .i64 (v3+v20)),AV.slc 5 0 1 (([] : List Int).length) false,AV.lst true true (List.map AaD.av ([] : List AaD)),AV.str (ByteArray.mk #[]),Iz 0,AV.str (ByteArray.mk #[])]) (by simp [F2]) (by simp) ?_;refine Can.ren (m:=1) h0 [(0,0),(1,1),(2,3),(3,4),(4,2),(5,5),(6,6)] [(6,.ptr 1 0),(7,.ptr 4 0)] [(0,.cells [Lz v0,Iz v21]),(1,Aap ),(2,Gi ([] : List Int)),(3,.grow (AaM (List.map AaD.av ([] : List AaD)))),(4,.cells [Iz v2,Iz 0,AV.str (ByteArray.mk #[]),Iz v3,Iz v6,Iz (IntKind.wrap .i64 (v2+1)),Iz (IntKind.wrap .i64 (1+v18)),Iz (IntKind.wrap .i64 (v3+v20)),AV.slc 5 0 1 (([] : List Int).length) false,AV.slc 6 0 3 (([] : List AaD).length) false,AV.str (ByteArray.mk #[]),Iz 0,AV.str (ByteArray.mk #[])]),(5,Gi ([] : List Int)),(6,.grow (AaM (List.map AaD.av ([] : List AaD))))] 7 (by decide) (by decide) (by decide) rfl (by simp [F2]) (by simp [F2]) ?_;exact JN ((IntKind.wrap .i64 (v2+1),IntKind.wrap .i64 (1+v18),IntKind.wrap .i64 (v3+v20),([] : List Int),([] : List AaD),(ByteArray.mk #[]),v21)) hF (by simp [F2]) (by simp [F2])
   ·have h7_:=Aba h7;have h7__:=Abd h7;have F3:=A4 F1 h7 h7_ h7__;refine CF (by simp [F3] <;> omega) ?_;refine AW.skip (hK0 _ _ _ ?_);refine Can.ownC 1 8 1 true (cs:=[Iz 0,Iz 0,AV.str (ByteArray.mk #[]),Iz 0,Iz 0,Iz 0,Iz 0,Iz 0,AV.lst true true (List.map (AV.int .i64) ([] : List Int)),AV.lst true true (List.map AaD.av ([] : List AaD)),AV.str (ByteArray.mk #[]),Iz 0,AV.str (ByteArray.mk #[])]) (by simp [F3]) (by simp) ?_;refine Can.ownC 1 9 3 true (cs:=[Iz 0,Iz 0,AV.str (ByteArray.mk #[]),Iz 0,Iz 0,Iz 0,Iz 0,Iz 0,AV.slc 3 0 1 (([] : List Int).length) false,AV.lst true true (List.map AaD.av ([] : List AaD)),AV.str (ByteArray.mk #[]),Iz 0,AV.str (ByteArray.mk #[])]) (by simp [F3]) (by simp) ?_;refine Can.ownC 2 8 1 true (cs:=[Iz v2,Iz 0,AV.str (ByteArray.mk #[]),Iz v3,Iz v6,Iz v17,Iz (IntKind.wrap .i64 (1+v18)),Iz (IntKind.wrap .i64 (v3+v20)),AV.lst true true (List.map (AV.int .i64) ([] : List Int)),AV.lst true true (List.map AaD.av ([] : List AaD)),AV.str (ByteArray.mk #[]),Iz 0,AV.str (ByteArray.mk #[])]) (by simp [F3]) (by simp) ?_;refine Can.ownC 2 9 3 true (cs:=[Iz v2,Iz 0,AV.str (ByteArray.mk #[]),Iz v3,Iz v6,Iz v17,Iz (IntKind.wrap .i64 (1+v18)),Iz (IntKind.wrap .i64 (v3+v20)),AV.slc 5 0 1 (([] : List Int).length) false,AV.lst true true (List.map AaD.av ([] : List AaD)),AV.str (ByteArray.mk #[]),Iz 0,AV.str (ByteArray.mk #[])]) (by simp [F3]) (by simp) ?_;refine Can.ren (m:=1) h0 [(0,0),(1,1),(2,3),(3,4),(4,2),(5,5),(6,6)] [(6,.ptr 1 0),(7,.ptr 4 0)] [(0,.cells [Lz v0,Iz v21]),(1,Aap ),(2,Gi ([] : List Int)),(3,.grow (AaM (List.map AaD.av ([] : List AaD)))),(4,.cells [Iz v2,Iz 0,AV.str (ByteArray.mk #[]),Iz v3,Iz v6,Iz v17,Iz (IntKind.wrap .i64 (1+v18)),Iz (IntKind.wrap .i64 (v3+v20)),AV.slc 5 0 1 (([] : List Int).length) false,AV.slc 6 0 3 (([] : List AaD).length) false,AV.str (ByteArray.mk #[]),Iz 0,AV.str (ByteArray.mk #[])]),(5,Gi ([] : List Int)),(6,.grow (AaM (List.map AaD.av ([] : List AaD))))] 7 (by decide) (by decide) (by decide) rfl (by simp [F3]) (by simp [F3]) ?_;exact JN ((v17,IntKind.wrap .i64 (1+v18),IntKind.wrap .i64 (v3+v20),([] : List Int),([] : List AaD),(ByteArray.mk #[]),v21)) hF (by simp [F3]) (by simp [F3])
  ·have h2_:=Aba h2;have h2__:=Abd h2;have F4:=A3 h2 h2_ h2__;refine CF (by simp [F4] <;> omega) ?_;refine SW F4 [] N2 [1,2,16,57] [(83,.bool (v6==2))] [] [] 3 ?_;rcases IFo hF with ⟨h8,hF⟩|⟨h8,hF⟩
   ·have h8q : v6=2:=h8;have h8_:=Abf h8q;have h8__:=Abe h8q;have F5:=A4 F4 h8_ h8__ h8q;refine CT (by simp [F5] <;> omega) ?_;refine RG [] N4 fun _ _ g r=>?_;try simp [F5]
    and_intros
    try any_goals first | omega | (simp [maxLen,F5] <;> omega)
    obtain ⟨v22,v23,h9,hF⟩:=Aaa hF;refine AaO (Aas k _ _ _ _ _ h9) (by simp) [0] [] [0] rfl (.cons (.same (by simp [F5])) (.cons (.same (by simp [F5])) .nil)) (by simp [F5]) (by decide) (by simp) (by simp) (.inl rfl) (by simp) (by simp) ?_;try simp [F5]
    and_intros <;> first | exact GK g | apply r | omega | (simp [maxLen,F5] <;> omega)
    refine hK0 _ _ _ ?_;refine Can.weak [(6,.ptr 1 0),(7,.ptr 2 0)] [(0,.cells [Lz v0,Iz v23]),(1,Ach ),(2,.cells [Iz v2,Iz 0,AV.str (ByteArray.mk #[]),Iz v3,Iz v6,Iz v22,Iz 0,Iz 0,AV.lst true true (List.map (AV.int .i64) ([] : List Int)),AV.lst true true (List.map AaD.av ([] : List AaD)),AV.str (ByteArray.mk #[]),Iz 0,AV.str (ByteArray.mk #[])])] 3 (by simp [F5]) (by simp [F5]) (by simp) ?_;refine Can.ownC 1 8 1 true (cs:=[Iz 0,Iz 0,AV.str (ByteArray.mk #[]),Iz 0,Iz 0,Iz 0,Iz 0,Iz 0,AV.lst true true (List.map (AV.int .i64) ([] : List Int)),AV.lst true true (List.map AaD.av ([] : List AaD)),AV.str (ByteArray.mk #[]),Iz 0,AV.str (ByteArray.mk #[])]) (by simp [F5]) (by simp) ?_;refine Can.ownC 1 9 3 true (cs:=[Iz 0,Iz 0,AV.str (ByteArray.mk #[]),Iz 0,Iz 0,Iz 0,Iz 0,Iz 0,AV.slc 3 0 1 (([] : List Int).length) false,AV.lst true true (List.map AaD.av ([] : List AaD)),AV.str (ByteArray.mk #[]),Iz 0,AV.str (ByteArray.mk #[])]) (by simp [F5]) (by simp) ?_;refine Can.ownC 2 8 1 true (cs:=[Iz v2,Iz 0,AV.str (ByteArray.mk #[]),Iz v3,Iz v6,Iz v22,Iz 0,Iz 0,AV.lst true true (List.map (AV.int .i64) ([] : List Int)),AV.lst true true (List.map AaD.av ([] : List AaD)),AV.str (ByteArray.mk #[]),Iz 0,AV.str (ByteArray.mk #[])]) (by simp [F5]) (by simp) ?_;refine Can.ownC 2 9 3 true (cs:=[Iz v2,Iz 0,AV.str (ByteArray.mk #[]),Iz v3,Iz v6,Iz v22,Iz 0,Iz 0,AV.slc 5 0 1 (([] : List Int).length) false,AV.lst true true (List.map AaD.av ([] : List AaD)),AV.str (ByteArray.mk #[]),Iz 0,AV.str (ByteArray.mk #[])]) (by simp [F5]) (by simp) ?_;refine Can.ren (m:=1) h0 [(0,0),(1,1),(2,3),(3,4),(4,2),(5,5),(6,6)] [(6,.ptr 1 0),(7,.ptr 4 0)] [(0,.cells [Lz v0,Iz v23]),(1,Aap ),(2,Gi ([] : List Int)),(3,.grow (AaM (List.map AaD.av ([] : List AaD)))),(4,.cells [Iz v2,Iz 0,AV.str (ByteArray.mk #[]),Iz v3,Iz v6,Iz v22,Iz 0,Iz 0,AV.slc 5 0 1 (([] : List Int).length) false,AV.slc 6 0 3 (([] : List AaD).length) false,AV.str (ByteArray.mk #[]),Iz 0,AV.str (ByteArray.mk #[])]),(5,Gi ([] : List Int)),(6,.grow (AaM (List.map AaD.av ([] : List AaD))))] 7 (by decide) (by decide) (by decide) rfl (by simp [F5]) (by simp [F5]) ?_;exact JN ((v22,0,0,([] : List Int),([] : List AaD),(ByteArray.mk #[]),v23)) hF (by simp [F5]) (by simp [F5])
   ·have h8_:=Aba h8;have h8__:=Abd h8;have F6:=A4 F4 h8 h8_ h8__;refine CF (by simp [F6] <;> omega) ?_;refine SR [] N13 fun _ _ g r=>?_;try simp [F6]
    and_intros
    try any_goals first | omega | (simp [maxLen,F6] <;> omega)
    obtain ⟨v24,v25,h10,hF⟩:=Aaa hF;refine AaO (Aas k _ _ _ _ _ h10) (by simp) [0] [] [0] rfl (.cons (.same (by simp [F6])) (.cons (.same (by simp [F6])) .nil)) (by simp [F6]) (by decide) (by simp) (by simp) (.inl rfl) (by simp) (by simp) ?_;try simp [F6]
    and_intros
    try any_goals first | omega | (simp [maxLen,F6] <;> omega)
    obtain ⟨v26,v27,h11,hF⟩:=Aaa hF;refine AaO (Abb k _ _ _ _ _ h11) (by simp) [0] [] [0] rfl (.cons (.same (by simp [F6])) (.cons (Coe.fl (by simp [F6])) .nil)) (by simp [F6]) (by decide) (by simp) (by simp) (.inl rfl) (by simp) (by simp) ?_;try simp [F6]
    and_intros
    try any_goals first | omega | (simp [maxLen,F6] <;> omega)
    obtain ⟨v28,v29,h12,hF⟩:=Aaa hF;refine AaO (Aas k _ _ _ _ _ h12) (by simp) [0] [] [0] rfl (.cons (.same (by simp [F6])) (.cons (.same (by simp [F6])) .nil)) (by simp [F6]) (by decide) (by simp) (by simp) (.inl rfl) (by simp) (by simp) ?_;refine TL F6 g r [83] [] [0,2] [(0,.cells [Lz v0,Iz v29]),(2,.cells [Iz v2,Iz 0,AV.str (ByteArray.mk #[]),Iz v3,Iz v6,Iz v24,Iz v26,Iz v28,AV.lst true true (List.map (AV.int .i64) ([] : List Int)),AV.lst true true (List.map AaD.av ([] : List AaD)),AV.str (ByteArray.mk #[]),Iz 0,AV.str (ByteArray.mk #[])])] 3 ?_;refine AW.seq fun K1 hK1=>?_;refine SR [] N3 fun _ _ g r=>?_;try simp [F6]
    and_intros
    try any_goals first | omega | (simp [maxLen,F6] <;> omega)
    obtain ⟨v30,v31,h13,hF⟩:=Aaa hF;refine AaO (Aas k _ _ _ _ _ h13) (by simp) [0] [] [0] rfl (.cons (.same (by simp [F6])) (.cons (.same (by simp [F6])) .nil)) (by simp [F6]) (by decide) (by simp) (by simp) (.inl rfl) (by simp) (by simp) ?_;refine TL F6 g r [] [(8,Iz v30)] [0] [(0,.cells [Lz v0,Iz v31])] 3 ?_;refine AW.block ?_;refine AW.ownC 1 8 1 true (cs:=[Iz 0,Iz 0,AV.str (ByteArray.mk #[]),Iz 0,Iz 0,Iz 0,Iz 0,Iz 0,AV.lst true true (List.map (AV.int .i64) ([] : List Int)),AV.lst true true (List.map AaD.av ([] : List AaD)),AV.str (ByteArray.mk #[]),Iz 0,AV.str (ByteArray.mk #[])]) (by simp [F6]) (by simp) ?_;refine AW.ownC 1 9 3 true (cs:=[Iz 0,Iz 0,AV.str (ByteArray.mk #[]),Iz 0,Iz 0,Iz 0,Iz 0,Iz 0,AV.slc 3 0 1 (([] : List Int).length) false,AV.lst true true (List.map AaD.av ([] : List AaD)),AV.str (ByteArray.mk #[]),Iz 0,AV.str (ByteArray.mk #[])]) (by simp [F6]) (by simp) ?_;refine AW.ownC 2 8 1 true (cs:=[Iz v2,Iz 0,AV.str (ByteArray.mk #[]),Iz v3,Iz v6,Iz v24,Iz v26,Iz v28,AV.lst true true (List.map (AV.int .i64) ([] : List Int)),AV.lst true true (List.map AaD.av ([] : List AaD)),AV.str (ByteArray.mk #[]),Iz 0,AV.str (ByteArray.mk #[])]) (by simp [F6]) (by simp) ?_;refine AW.ownC 2 9 3 true (cs:=[Iz v2,Iz 0,AV.str (ByteArray.mk #[]),Iz v3,Iz v6,Iz v24,Iz v26,Iz v28,AV.slc 5 0 1 (([] : List Int).length) false,AV.lst true true (List.map AaD.av ([] : List AaD)),AV.str (ByteArray.mk #[]),Iz 0,AV.str (ByteArray.mk #[])]) (by simp [F6]) (by simp) ?_;refine AW.rnm (m:=1) h0 [(0,0),(1,1),(2,3),(3,4),(4,2),(5,5),(6,6)] [(0,.ptr 0 0),(6,.ptr 1 0),(7,.ptr 4 0),(8,Iz v30)] [(0,.cells [Lz v0,Iz v31]),(1,Aap ),(2,Gi ([] : List Int)),(3,.grow (AaM (List.map AaD.av ([] : List AaD)))),(4,.cells [Iz v2,Iz 0,AV.str (ByteArray.mk #[]),Iz v3,Iz v6,Iz v24,Iz v26,Iz v28,AV.slc 5 0 1 (([] : List Int).length) false,AV.slc 6 0 3 (([] : List AaD).length) false,AV.str (ByteArray.mk #[]),Iz 0,AV.str (ByteArray.mk #[])]),(5,Gi ([] : List Int)),(6,.grow (AaM (List.map AaD.av ([] : List AaD))))] 7 (by decide) (by decide) (by decide) rfl (by simp [F6]) (by simp [F6]) ?_;refine AW.loopF (α:=(Int×Int×(List Int))) (fun n (v32,v33,v34)=>AaR.L2 k v0 v2 v3 v6 v24 v26 v28 n v32 v33 v34=some (v4,v5)) (fun (v32,v33,v34)=>[(0,.ptr 0 0),(6,.ptr 1 0),(7,.ptr 4 0),(8,Iz v32)]) (fun (v32,v33,v34)=>[(0,.cells [Lz v0,Iz v33]),(1,Aap ),(2,Gi ([] : List Int)),(3,.grow (AaM (List.map AaD.av ([] : List AaD)))),(4,.cells [Iz v2,Iz 0,AV.str (ByteArray.mk #[]),Iz v3,Iz v6,Iz v24,Iz v26,Iz v28,Sc 5 v34,AV.slc 6 0 3 (([] : List AaD).length) false,AV.str (ByteArray.mk #[]),Iz 0,AV.str (ByteArray.mk #[])]),(5,Gi v34),(6,.grow (AaM (List.map AaD.av ([] : List AaD))))]) 7 k ((v30,v31,([] : List Int))) hF (by simp [F6]) (by simp [F6]) (by simp) ?_;rintro (_|n2) ⟨v32,v33,v34⟩ hF K2 hK2
    ·try dsimp only at hF
     rw [AaR.L2] at hF; cases hF
    try dsimp only at hF
    rw [AaR.L2] at hF;refine AW.seq fun K3 hK3=>?_;refine SW F6 [] N2 [] [(30,.bool (decide (0<v32)))] [] [] 7 ?_;rcases IFo hF with ⟨h14,hF⟩|⟨h14,hF⟩
    ·have h14_:=h14;try simp at h14_
     have F7:=A3 F6 h14 h14_;refine CT (by simp [F7] <;> omega) ?_;refine AW.skip (hK3 _ _ _ ?_);refine AW.seq fun K4 hK4=>?_;refine AW.block ?_;refine RG [] N9 fun _ _ g r=>?_;try simp [F7]
     and_intros
     try any_goals first | omega | (simp [maxLen,F7] <;> omega)
     obtain ⟨v35,v36,h15,hF⟩:=Aaa hF;refine AaO (Abb k _ _ _ _ _ h15) (by simp) [0] [] [0] rfl (.cons (.same (by simp [F7])) (.cons (Coe.fl (by simp [F7])) .nil)) (by simp [F7]) (by decide) (by simp) (by simp) (.inl rfl) (by simp) (by simp) ?_;obtain ⟨h16,hF⟩:=AaP hF;have h16_:=h16;try simp at h16_
     have F8:=A2 F7 h16;try simp [F8]
     and_intros <;> first | exact GK g | apply r | omega | (simp [maxLen,F8] <;> omega)
     refine hK4 _ _ _ ?_;refine WK [(0,.ptr 0 0),(6,.ptr 1 0),(7,.ptr 4 0),(8,Iz v32)] [(0,.cells [Lz v0,Iz v36]),(1,Aap ),(2,Gi ([] : List Int)),(3,.grow (AaM (List.map AaD.av ([] : List AaD)))),(4,.cells [Iz v2,Iz 0,AV.str (ByteArray.mk #[]),Iz v3,Iz v6,Iz v24,Iz v26,Iz v28,AV.slc 7 0 1 ((v34++([v35] : List Int)).length) false,AV.slc 6 0 3 (([] : List AaD).length) false,AV.str (ByteArray.mk #[]),Iz 0,AV.str (ByteArray.mk #[])]),(6,.grow (AaM (List.map AaD.av ([] : List AaD)))),(7,Gi (v34++([v35] : List Int)))] 8 (by simp [F8]) (by simp [F8] <;> omega) ?_;refine RG [] N3 fun _ _ g r=>?_;try simp [F8]
     and_intros <;> first | exact GK g | apply r | omega | (simp [maxLen,F8] <;> omega)
     refine hK2 _ _ _ ?_;refine Can.weak [(0,.ptr 0 0),(6,.ptr 1 0),(7,.ptr 4 0),(8,Iz (IntKind.wrap .i64 (v32-1)))] [(0,.cells [Lz v0,Iz v36]),(1,Aap ),(2,Gi ([] : List Int)),(3,.grow (AaM (List.map AaD.av ([] : List AaD)))),(4,.cells [Iz v2,Iz 0,AV.str (ByteArray.mk #[]),Iz v3,Iz v6,Iz v24,Iz v26,Iz v28,AV.slc 7 0 1 ((v34++([v35] : List Int)).length) false,AV.slc 6 0 3 (([] : List AaD).length) false,AV.str (ByteArray.mk #[]),Iz 0,AV.str (ByteArray.mk #[])]),(6,.grow (AaM (List.map AaD.av ([] : List AaD)))),(7,Gi (v34++([v35] : List Int)))] 8 (by simp [F8]) (by simp [F8] <;> omega) (by simp) ?_;refine Can.ren (m:=1) h0 [(0,0),(1,1),(2,2),(3,3),(4,4),(5,7),(6,6)] [(0,.ptr 0 0),(6,.ptr 1 0),(7,.ptr 4 0),(8,Iz (IntKind.wrap .i64 (v32-1)))] [(0,.cells [Lz v0,Iz v36]),(1,Aap ),(2,Gi ([] : List Int)),(3,.grow (AaM (List.map AaD.av ([] : List AaD)))),(4,.cells [Iz v2,Iz 0,AV.str (ByteArray.mk #[]),Iz v3,Iz v6,Iz v24,Iz v26,Iz v28,AV.slc 5 0 1 ((v34++([v35] : List Int)).length) false,AV.slc 6 0 3 (([] : List AaD).length) false,AV.str (ByteArray.mk #[]),Iz 0,AV.str (ByteArray.mk #[])]),(5,Gi (v34++([v35] : List Int))),(6,.grow (AaM (List.map AaD.av ([] : List AaD))))] 7 (by decide) (by decide) (by decide) rfl (by simp [F8]) (by simp [F8]) ?_;exact NX (k':=n2) ((IntKind.wrap .i64 (v32-1),v36,v34++([v35] : List Int))) hF (by simp [F8]) (by simp [F8])
    ·have h14_:=h14;try simp at h14_
     have F9:=A3 F6 h14 h14_;refine CF (by simp [F9] <;> omega) ?_;refine AW.exit ?_;try simp
     refine hK1 _ _ _ ?_;refine AW.midF (α:=(Int×(List AaD))) (fun (v37,v38)=>AaR.J3 k v0 v2 v3 v6 v24 v26 v28 v34 v37 v38=some (v4,v5)) (fun (v37,v38)=>[(0,.ptr 0 0),(6,.ptr 1 0),(7,.ptr 4 0)]) (fun (v37,v38)=>[(0,.cells [Lz v0,Iz v37]),(1,Aap ),(2,Gi ([] : List Int)),(3,.grow (AaM (List.map AaD.av ([] : List AaD)))),(4,.cells [Iz v2,Iz 0,AV.str (ByteArray.mk #[]),Iz v3,Iz v6,Iz v24,Iz v26,Iz v28,Sc 5 v34,AV.slc 6 0 3 v38.length false,AV.str (ByteArray.mk #[]),Iz 0,AV.str (ByteArray.mk #[])]),(5,Gi v34),(6,.grow (AaM (List.map AaD.av v38)))]) 7 (fun K5 hK5=>?_) ?_
     ·refine SR [] N2 fun _ _ g r=>?_;try simp [F9]
      and_intros
      try any_goals first | omega | (simp [maxLen,F9] <;> omega)
      obtain ⟨v41,v42,h18,hF⟩:=Aaa hF;refine AaO (AhS k _ _ _ _ _ h18) (by simp) [0] [] [0] rfl (.cons (.same (by simp [F9])) (.cons (.same (by simp [F9])) .nil)) (by simp [F9]) (by decide) (by simp) (by simp) (.inl rfl) (by simp) (by simp) ?_;refine TL F9 g r [8] [(42,.bool v41)] [0] [(0,.cells [Lz v0,Iz v42])] 7 ?_;rcases IFo hF with ⟨h19,hF⟩|⟨h19,hF⟩
      ·have h19_:=h19;try simp at h19_
       have F10:=A3 F9 h19 h19_;refine CT (by simp [F10] <;> omega) ?_;refine RG [51] N11 fun _ _ g r=>?_;try simp [F10]
       and_intros
       try any_goals first | omega | (simp [maxLen,F10] <;> omega)
       obtain ⟨v43,v44,h20,hF⟩:=Aaa hF;refine AaO (Aas k _ _ _ _ _ h20) (by simp) [0] [] [0] rfl (.cons (.same (by simp [F10])) (.cons (.same (by simp [F10])) .nil)) (by simp [F10]) (by decide) (by simp) (by simp) (.inl rfl) (by simp) (by simp) ?_;try simp [F10]
       and_intros
       try any_goals first | omega | (simp [maxLen,F10] <;> omega)
       obtain ⟨v45,v46,h21,hF⟩:=Aaa hF;refine AaO (Aas k _ _ _ _ _ h21) (by simp) [0] [] [0] rfl (.cons (.same (by simp [F10])) (.cons (.same (by simp [F10])) .nil)) (by simp [F10]) (by decide) (by simp) (by simp) (.inl rfl) (by simp) (by simp) ?_;try simp [F10]
       and_intros
       try any_goals first | omega | (simp [maxLen,F10] <;> omega)
       obtain ⟨v47,v48,h22,hF⟩:=Aaa hF;refine AaO (Ac0 k _ _ _ _ h22) (by simp) [0] [] [0] rfl (.cons (.same (by simp [F10])) .nil) (by simp [F10]) (by decide) (by simp) (by simp) (.inl rfl) (by simp) (by simp) ?_;try simp [F10]
       and_intros <;> first | exact GK g | apply r | omega | (simp [maxLen,F10] <;> omega)
       refine hK5 _ _ _ ?_;refine Can.weak [(0,.ptr 0 0),(6,.ptr 1 0),(7,.ptr 4 0)] [(0,.cells [Lz v0,Iz v48]),(1,Aap ),(2,Gi ([] : List Int)),(3,.grow (AaM (List.map AaD.av ([] : List AaD)))),(4,.cells [Iz v2,Iz 0,AV.str (ByteArray.mk #[]),Iz v3,Iz v6,Iz v24,Iz v26,Iz v28,Sc 5 v34,AV.slc 7 0 3 (([(AaD.mk v43 (IntKind.wrap .i64 (1+v45)) v47)] : List AaD).length) true,AV.str (ByteArray.mk #[]),Iz 0,AV.str (ByteArray.mk #[])]),(5,Gi v34),(7,.cells (AaM (List.map AaD.av ([(AaD.mk v43 (IntKind.wrap .i64 (1+v45)) v47)] : List AaD))))] 8 (by simp [F10]) (by simp [F10]) (by simp) ?_;refine Can.ren (m:=1) h0 [(0,0),(1,1),(2,2),(3,3),(4,4),(5,5),(6,7)] [(0,.ptr 0 0),(6,.ptr 1 0),(7,.ptr 4 0)] [(0,.cells [Lz v0,Iz v48]),(1,Aap ),(2,Gi ([] : List Int)),(3,.grow (AaM (List.map AaD.av ([] : List AaD)))),(4,.cells [Iz v2,Iz 0,AV.str (ByteArray.mk #[]),Iz v3,Iz v6,Iz v24,Iz v26,Iz v28,Sc 5 v34,AV.slc 6 0 3 (([(AaD.mk v43 (IntKind.wrap .i64 (1+v45)) v47)] : List AaD).length) true,AV.str (ByteArray.mk #[]),Iz 0,AV.str (ByteArray.mk #[])]),(5,Gi v34),(6,.cells (AaM (List.map AaD.av ([(AaD.mk v43 (IntKind.wrap .i64 (1+v45)) v47)] : List AaD))))] 7 (by decide) (by decide) (by decide) rfl (by simp [F10]) (by simp [F10]) ?_;refine Can.flg [] [(4,.cells [Iz v2,Iz 0,AV.str (ByteArray.mk #[]),Iz v3,Iz v6,Iz v24,Iz v26,Iz v28,Sc 5 v34,AV.slc 6 0 3 (([(AaD.mk v43 (IntKind.wrap .i64 (1+v45)) v47)] : List AaD).length) false,AV.str (ByteArray.mk #[]),Iz 0,AV.str (ByteArray.mk #[])]),(6,.grow (AaM (List.map AaD.av ([(AaD.mk v43 (IntKind.wrap .i64 (1+v45)) v47)] : List AaD))))] trivial ⟨⟨Aan.cells [Iz v2,Iz 0,AV.str (ByteArray.mk #[]),Iz v3,Iz v6,Iz v24,Iz v26,Iz v28,Sc 5 v34,AV.slc 6 0 3 (([(AaD.mk v43 (IntKind.wrap .i64 (1+v45)) v47)] : List AaD).length) true,AV.str (ByteArray.mk #[]),Iz 0,AV.str (ByteArray.mk #[])],by simp [F10],(.mk (.cons (.same _) (.cons (.same _) (.cons (.same _) (.cons (.same _) (.cons (.same _) (.cons (.same _) (.cons (.same _) (.cons (.same _) (.cons (.same _) (.cons .slc (.cons (.same _) (.cons (.same _) (.cons (.same _) .nil))))))))))))))⟩,⟨Aan.cells (AaM (List.map AaD.av ([(AaD.mk v43 (IntKind.wrap .i64 (1+v45)) v47)] : List AaD))),by simp [F10],(.gr (by simp [F10]))⟩,trivial⟩ (by simp) ?_;exact JN ((v48,([(AaD.mk v43 (IntKind.wrap .i64 (1+v45)) v47)] : List AaD))) hF (by simp [F10]) (by simp [F10])
      ·have h19_:=h19;try simp at h19_
       have F11:=A3 F9 h19 h19_;refine CF (by simp [F11] <;> omega) ?_;refine AW.skip (hK5 _ _ _ ?_);exact JN ((v42,([] : List AaD))) hF (by simp [F11]) (by simp [F11])
     ·rintro ⟨v37,v38⟩ hF
      try dsimp only at hF
      unfold AaR.J3 at hF;refine RG [] N5 fun _ _ g r=>?_;try simp [F9]
      and_intros
      try any_goals first | omega | (simp [maxLen,F9] <;> omega)
      obtain ⟨v39,v40,h17,hF⟩:=Aaa hF;refine AaO (Agb k _ _ _ _ _ h17) (by simp) [0] [] [0] rfl (.cons (.same (by simp [F9])) (.cons (.same (by simp [F9])) .nil)) (by simp [F9]) (by decide) (by simp) (by simp) (.inl rfl) (by simp) (by simp) ?_;try simp [F9]
      and_intros <;> first | exact GK g | apply r | omega | (simp [maxLen,F9] <;> omega)
      refine hK0 _ _ _ ?_;refine Can.weak [(6,.ptr 1 0),(7,.ptr 4 0)] [(0,.cells [Lz v0,Iz v40]),(1,Aap ),(2,Gi ([] : List Int)),(3,.grow (AaM (List.map AaD.av ([] : List AaD)))),(4,.cells [Iz v2,Iz 0,AV.str (ByteArray.mk #[]),Iz v3,Iz v6,Iz v24,Iz v26,Iz v28,Sc 5 v34,AV.slc 6 0 3 v38.length false,AV.str (ofI v39),Iz 0,AV.str (ByteArray.mk #[])]),(5,Gi v34),(6,.grow (AaM (List.map AaD.av v38)))] 8 (by simp [F9]) (by simp [F9]) (by simp) ?_;refine Can.ren (m:=1) h0 [(0,0),(1,1),(2,2),(3,3),(4,4),(5,5),(6,6)] [(6,.ptr 1 0),(7,.ptr 4 0)] [(0,.cells [Lz v0,Iz v40]),(1,Aap ),(2,Gi ([] : List Int)),(3,.grow (AaM (List.map AaD.av ([] : List AaD)))),(4,.cells [Iz v2,Iz 0,AV.str (ByteArray.mk #[]),Iz v3,Iz v6,Iz v24,Iz v26,Iz v28,Sc 5 v34,AV.slc 6 0 3 v38.length false,AV.str (ofI v39),Iz 0,AV.str (ByteArray.mk #[])]),(5,Gi v34),(6,.grow (AaM (List.map AaD.av v38)))] 7 (by decide) (by decide) (by decide) rfl (by simp [F9]) (by simp [F9]) ?_;exact JN ((v24,v26,v28,v34,v38,ofI v39,v40)) hF (by simp [F9]) (by simp [F9])
 ·rintro ⟨v8,v9,v10,v11,v12,v13,v14⟩ hF
  try dsimp only at hF
  unfold AaR.J1 at hF;refine SW trivial [] N2 [7] [] [1,2,3,4] [(1,.cells [Iz v2,Iz 0,AV.str (ByteArray.mk #[]),Iz v3,Iz v6,Iz v8,Iz v9,Iz v10,Sc 5 v11,AV.slc 6 0 3 v12.length false,AV.str v13,Iz 0,AV.str (ByteArray.mk #[])])] 7 ?_;refine AW.rnm (m:=1) h0 [(0,0),(1,5),(2,6),(3,1)] [(6,.ptr 3 0)] [(0,.cells [Lz v0,Iz v14]),(1,Gi v11),(2,.grow (AaM (List.map AaD.av v12))),(3,.cells [Iz v2,Iz 0,AV.str (ByteArray.mk #[]),Iz v3,Iz v6,Iz v8,Iz v9,Iz v10,Sc 1 v11,AV.slc 2 0 3 v12.length false,AV.str v13,Iz 0,AV.str (ByteArray.mk #[])])] 4 (by decide) (by decide) (by decide) rfl (by simp) (by simp) ?_;simp only [Option.some.injEq,Prod.mk.injEq] at hF;obtain ⟨e0,e1⟩:=hF;subst e0 e1;refine AW.ret (hQ _ _ _ ?_ (AaE ?_)).1
  ·simp [Try.f25]
  ·simp
end Go.TF
