import Derived.Test.YtomgdcnbceiggaaSrzWal30
import Derived.Test.YtomgdcnbceiggaaSrzWal31
import Derived.Test.YtomgdcnbceiggaaSrzWal32
import Derived.Test.YtomgdcnbceiggaaSrzWal33
set_option linter.unusedVariables false
set_option linter.unusedSimpArgs false
set_option maxRecDepth 100000
set_option maxHeartbeats 4000000
namespace Go.TF
open Go Go.Abs Go.Proofs Go.Proofs.YtomgdcnbceiggaaSrT
theorem Ap3 (v2 v3 : Value) (w : World) :
 CallsD Try.prog 85 #[v2,v3] .returning w fun e u' w'=>e = .returned (.tuple #[])∧u' = .returning∧∃ y,w'=w.alloc y:=by
 refine callsD_of_wpS Try.func85 rfl fun c₀ cs hu=>?_;apply wpS_seq
 apply wpS_region
 simp [wpOpsS,go_sem,recoverD,hu,Try.ntmps85,Exit.thenS]
 apply wpS_seq
 apply wpS_region
 simp [wpOpsS,go_sem,Exit.thenS,Instr.typeAssert]
 apply wpS_seq
 apply wpS_region
 simp [wpOpsS,go_sem,Exit.thenS]
 refine wpS_cond (t:=false) (by simp [Act.eval,Array.replicate]) ?_;simp only [Bool.false_eq_true,if_false];apply wpS_seq
 apply wpS_region
 simp [wpOpsS,go_sem,Exit.thenS]
 refine wpS_cond (t:=false) (by simp [Act.eval,Array.replicate]) ?_;simp only [Bool.false_eq_true,if_false];refine wpS_of_wp (wp_skip ?_);cases c₀
 simp_all [bodyPostS,results,Try.results85]
 exact ⟨_,rfl⟩
def zst : List AV:=[AV.int .i64 0,AV.int .i64 0,AV.str (ByteArray.mk #[]),AV.int .i64 0,AV.int .i64 0,AV.int .i64 0,AV.int .i64 0,AV.int .i64 0,AV.lst true true [],AV.lst true true [],AV.str (ByteArray.mk #[]),AV.int .i64 0,AV.str (ByteArray.mk #[])]
theorem AoJ (c : Cx) (H : Aae) (w : World) (v2 v3 : Value) (N : Nat) (cs : List AV) (x : AV) (hr : AcH c H w) (hu0 : Abj c N) (h0 : H 0=some (.cells cs)) (hl : cs.length=13) (h1 : H 1=some (.cells [x])) (r2 : Rep c (.ptr 0 0) v2) (r3 : Rep c (.ptr 1 0) v3) :
 CallsD Try.prog 85 #[v2,v3] (.panicking pch) w fun e u' w'=>e = .returned (.tuple #[])∧u' = .panicking Aqy∧∃ c' H',AcH c' H' w'∧Ade c w c' w'∧H' 0=some (.cells zst)∧H' 1=some (.cells [.int .i64 1]):=by
 have hu : Abj c (N+2):=fun i hi=>hu0 i (by omega);refine callsD_of_wpS Try.func85 rfl fun c₀ cs0 hm=>?_;apply wpS_seq
 apply wpS_region
 unfold pch at hm;simp [wpOpsS,go_sem,recoverD,hm,Try.ntmps85,Exit.thenS]
 apply wpS_seq
 apply wpS_region
 simp [wpOpsS,go_sem,Exit.thenS,Instr.typeAssert]
 apply wpS_seq
 apply wpS_region
 simp [wpOpsS,go_sem,Exit.thenS]
 refine wpS_cond (t:=true) (by simp [Act.eval,Array.replicate]) ?_;simp only [if_true];obtain ⟨hr1,g1⟩:=hr.allocZ (.cells #[] 108);have hne : cs≠[]:=by intro e; subst e; simp at hl
 refine wpS_of_wp (Arp (df:=[]) (n:=16) (s:=mkS [(0,.ptr 0 0),(1,.ptr 1 0)]) (H:=H) (N:=N+2) [] [none,none,none] (by kernel_rfl) (fun K hK=>?_) (ApC hr1 (by simp) rfl hu _ ?_))
 ·have hdrop : List.drop 13 cs = []:=List.drop_of_length_le (by omega);simp [h0,h1,hl,hne,hdrop]
  refine hK _ _ _ ?_;intro a w1 ⟨c',hrel,hd,g',hu'⟩
  have g2:=g1.trans g';simp [bodyPostS,results,Try.results85,hd,Aqy]
  exact ⟨c',_,hrel.hr,g2,by simp [upd,zst],by simp [upd]⟩
 ·intro p hp
  simp at hp
  rcases hp with rfl | rfl
  ·simpa [Array.replicate] using r2.mono g1.le
  ·simpa [Array.replicate] using r3.mono g1.le
theorem Ad8 (k : Nat) (v0 : (List Int)) (v1 : AaI) (v2 : Int) (hF : AcW k v0=some (v1,v2)) :
 AbK Try.prog 49 [AV.lst false false (List.map (AV.int .u8) v0)] [] (AV.tup [AV.agg [AV.int .i64 v1.Author,AV.int .i64 v1.Number,AV.str v1.Prev,AV.int .i64 v1.Time,AV.int .i64 v1.Kind,AV.int .i64 v1.A,AV.int .i64 v1.B,AV.int .i64 v1.C,AV.lst false false (List.map (AV.int .i64) v1.Lst),Q0 v1.Pins,AV.str v1.Body,AV.int .i64 v1.Seal_Key,AV.str v1.Seal_Digest],AV.int .i64 v2]) [] where
 len:=by simp
 ga:=by simp
 gO:=by simp
 gr:=by simp
 gO':=by simp
 call:=by
  intro c w vs hr hu ha
  have hl : vs.size=1:=by simpa using ha.length
  refine calls_of_wp_defers Try.func49 rfl ?_;refine AsL (df:=[]) (n:=26) (s:=AmQ [AV.lst false false (List.map (AV.int .u8) v0)]) (H:=fun i=>([] : List Aaq)[i]?) (N:=0) (c0:=c) (w0:=w) [] [none,none] (by kernel_rfl) (fun K hK=>?_) ⟨c,⟨hr,by simp [hl,Try.ntmps49],fun t ht=>Aif ha (by simp [Try.ntmps49]) t ht⟩,rfl,.refl _ _,hu⟩;simp
  refine hK _ _ _ fun a1 w1 hs1=>?_;refine AlM (n:=26) rfl rfl rfl rfl rfl rfl (by decide) (fun c2 a2 w2 p2 p3 hrel hd r2 r3 g2 hu2=>?_) hs1;simp at r2 r3
  let Q : Acn:=fun e s H N=>s 2 = .ptr 0 0∧s 3 = .ptr 1 0∧((e = .ret∧H 0=some (.cells [AV.int .i64 v1.Author,AV.int .i64 v1.Number,AV.str v1.Prev,AV.int .i64 v1.Time,AV.int .i64 v1.Kind,AV.int .i64 v1.A,AV.int .i64 v1.B,AV.int .i64 v1.C,AV.lst false false (List.map (AV.int .i64) v1.Lst),Q0 v1.Pins,AV.str v1.Body,AV.int .i64 v1.Seal_Key,AV.str v1.Seal_Digest])∧H 1=some (.cells [.int .i64 v2])) ∨
   (e = .panic pch∧(∃ cs x,H 0=some (.cells cs)∧cs.length=13∧H 1=some (.cells [x]))∧v1=(AaI.mk 0 0 (ByteArray.mk #[]) 0 0 0 0 0 [] [] (ByteArray.mk #[]) 0 (ByteArray.mk #[]))∧v2=1))
  refine wp_mono (AWd.app (Q:=Q) (df:=[{ target := .fn (.func 85) #[p2,p3],args := #[] }]) (c0:=c2) (w0:=w2) ?_ ⟨c2,hrel,hd,.refl _ _,hu2⟩) ?_;rotate_left
  ·rintro e a w3 ⟨s,H,N,⟨e2,e3,h⟩,c3,hrel3,hd3,g3,hu3⟩
   have q2:=r2.mono g3.le;have q3:=r3.mono g3.le;have g4:=g2.trans g3;rcases h with ⟨rfl,h0,h1⟩ | ⟨rfl,⟨cs,x,h0,hl,h1⟩,rfl,rfl⟩
   ·show Leaves _ _ _ _ a.defers .returning w3
    rw [hd3];refine leaves_cons (f:=85) (args := #[p2,p3]) (by simp) (by simp [go_sem]) ((Ap3 p2 p3 w3).mono ?_);rintro e u w4 ⟨rfl,rfl,y,rfl⟩
    obtain ⟨hr4,g5⟩:=hrel3.hr.allocZ y;have hrel4 : Rel 26 _ s H a (w3.alloc y):=⟨hr4,hrel3.size,fun t ht=>(hrel3.slot t ht).mono g5.le⟩;obtain ⟨v,k1,k2⟩:=AgE (P:=Try.prog) hrel4 (fn:=Try.f49) (r:=AV.tup [AV.agg [AV.int .i64 v1.Author,AV.int .i64 v1.Number,AV.str v1.Prev,AV.int .i64 v1.Time,AV.int .i64 v1.Kind,AV.int .i64 v1.A,AV.int .i64 v1.B,AV.int .i64 v1.C,AV.lst false false (List.map (AV.int .i64) v1.Lst),Q0 v1.Pins,AV.str v1.Body,AV.int .i64 v1.Seal_Key,AV.str v1.Seal_Digest],AV.int .i64 v2]) (by decide) (by
     show Ae5 _ _ _ [.cell 2 43,.cell 3 33] _
     refine ⟨_,_,rfl,?_,?_⟩
     ·simp [AdI,e2,h0]
     ·simp [AdI,e3,h1])
    exact ⟨v,k1,v,_,H,rfl,hr4,by simp,k2,g4.trans g5⟩
   ·show Leaves _ _ _ _ a.defers (.panicking pch) w3
    rw [hd3];refine leaves_cons (f:=85) (args := #[p2,p3]) (by simp) (by simp [go_sem]) ((AoJ c3 H w3 p2 p3 N cs x hrel3.hr hu3 h0 hl h1 q2 q3).mono ?_);rintro e u w4 ⟨rfl,rfl,c4,H4,hr4,g5,j0,j1⟩
    have hr5 : AcH c4 (AhX H4 [(0,.cells [AV.int .i64 0,AV.int .i64 0,AV.str (ByteArray.mk #[]),AV.int .i64 0,AV.int .i64 0,AV.int .i64 0,AV.int .i64 0,AV.int .i64 0,AV.lst false false [],AV.lst false false [],AV.str (ByteArray.mk #[]),AV.int .i64 0,AV.str (ByteArray.mk #[])])]) w4:=hr4.flg (lo:=[(0,.cells [AV.int .i64 0,AV.int .i64 0,AV.str (ByteArray.mk #[]),AV.int .i64 0,AV.int .i64 0,AV.int .i64 0,AV.int .i64 0,AV.int .i64 0,AV.lst false false [],AV.lst false false [],AV.str (ByteArray.mk #[]),AV.int .i64 0,AV.str (ByteArray.mk #[])])]) ⟨⟨_,j0,by unfold zst; exact .mk (.cons (.same _) (.cons (.same _) (.cons (.same _) (.cons (.same _) (.cons (.same _) (.cons (.same _) (.cons (.same _) (.cons (.same _) (.cons (.lst rfl) (.cons (.lst rfl) (.cons (.same _) (.cons (.same _) (.cons (.same _) .nil)))))))))))))⟩,trivial⟩ (by decide);have hrel4 : Rel 26 c4 s _ a w4:=⟨hr5,hrel3.size,fun t ht=>(hrel3.slot t ht).mono g5.le⟩;obtain ⟨v,k1,k2⟩:=AgE (P:=Try.prog) hrel4 (fn:=Try.f49) (r:=AV.tup [AV.agg [AV.int .i64 0,AV.int .i64 0,AV.str (ByteArray.mk #[]),AV.int .i64 0,AV.int .i64 0,AV.int .i64 0,AV.int .i64 0,AV.int .i64 0,AV.lst false false [],AV.lst false false [],AV.str (ByteArray.mk #[]),AV.int .i64 0,AV.str (ByteArray.mk #[])],AV.int .i64 1]) (by decide) (by
     show Ae5 _ _ _ [.cell 2 43,.cell 3 33] _
     refine ⟨_,_,rfl,?_,?_⟩
     ·simp [AdI,e2,AhX,upd]
     ·simp [AdI,e3,AhX,upd,j1])
    show Leaves _ _ _ _ [] (settle (.panicking Aqy)) w4
    exact ⟨v,k1,v,c4,_,rfl,hr5,by simp,by first|simpa using k2|exact k2|(simp at k2;simp;exact k2),g4.trans g5⟩
  unfold AcW at hF;refine AWd.wk [(0,AV.lst false false (List.map (AV.int .u8) v0)),(2,AV.ptr 0 0),(3,AV.ptr 1 0)] [(0,.cells [AV.int .i64 0,AV.int .i64 0,AV.str (ByteArray.mk #[]),AV.int .i64 0,AV.int .i64 0,AV.int .i64 0,AV.int .i64 0,AV.int .i64 0,AV.lst true true [],AV.lst true true [],AV.str (ByteArray.mk #[]),AV.int .i64 0,AV.str (ByteArray.mk #[])]),(1,.cells [AV.int .i64 0])] 2 (by simp) (by simp) (by simp) ?_;refine AWd.seqR [] [none,none,none,none] (by kernel_rfl) fun G K hG hK=>?_;try simp
  repeat' apply And.intro
  any_goals (first | exact hG _ | refine hK _ _ _ ?_ | omega | (unfold maxLen; omega) | (simp; done) | (simp; omega))
  refine AWd.wk [(2,AV.ptr 0 0),(3,AV.ptr 1 0),(4,AV.ptr 2 0)] [(0,.cells [AV.int .i64 0,AV.int .i64 0,AV.str (ByteArray.mk #[]),AV.int .i64 0,AV.int .i64 0,AV.int .i64 0,AV.int .i64 0,AV.int .i64 0,AV.lst true true [],AV.lst true true [],AV.str (ByteArray.mk #[]),AV.int .i64 0,AV.str (ByteArray.mk #[])]),(1,.cells [AV.int .i64 0]),(2,.cells [AV.lst false false (List.map (AV.int .u8) v0)])] 3 (by simp) (by simp) (by simp) ?_;cases hR : Aaj k v0 with
  | none =>
   rw [hR] at hF;simp only at hF;cases hP : AaZ k v0 with
   | none=>rw [hP] at hF; cases hF
   | some u =>
    rw [hP] at hF;simp only [Option.some.injEq,Prod.mk.injEq] at hF;have hv:=hF;refine AWd.pan AdL [] [none,none,none] 1 [1,2] [(2,AV.ptr 0 0),(3,AV.ptr 1 0)] [(0,.cells [AV.int .i64 0,AV.int .i64 0,AV.str (ByteArray.mk #[]),AV.int .i64 0,AV.int .i64 0,AV.int .i64 0,AV.int .i64 0,AV.int .i64 0,AV.lst true true [],AV.lst true true [],AV.str (ByteArray.mk #[]),AV.int .i64 0,AV.str (ByteArray.mk #[])]),(1,.cells [AV.int .i64 0])] _ rfl (by kernel_rfl) (by simp) (by simp) (fun M=>⟨by simp,by simp,.inr ⟨rfl,⟨[AV.int .i64 0,AV.int .i64 0,AV.str (ByteArray.mk #[]),AV.int .i64 0,AV.int .i64 0,AV.int .i64 0,AV.int .i64 0,AV.int .i64 0,AV.lst true true [],AV.lst true true [],AV.str (ByteArray.mk #[]),AV.int .i64 0,AV.str (ByteArray.mk #[])],.int .i64 0,by simp,rfl,by simp⟩,hv.1.symm,hv.2.symm⟩⟩) fun K hK=>?_;simp only [msk,List.contains_cons,List.contains_nil,Nat.reduceBEq,Bool.or_false,Bool.or_true,Bool.false_or,Bool.false_eq_true,if_false,if_true,Nat.reduceAdd,Nat.zero_add];try simp
    repeat' apply And.intro
    any_goals (first | exact hK _ _ _ [2] [2] (OpP.call rfl _ _ _ rfl 86 [] rfl (by simp) (AeE k _ hP) [2] rfl (.cons (.same (by simp)) .nil) (by simp) (by decide)) (by kernel_rfl) | omega | (unfold maxLen; omega) | (simp; done) | (simp; omega))
  | some r =>
   obtain ⟨v,l⟩:=r;rw [hR] at hF;simp only at hF;refine AWd.seqR [] [none,none,none] (by kernel_rfl) fun G K hG hK=>?_;try simp
   repeat' apply And.intro
   try any_goals (first | omega | (unfold maxLen; omega) | (simp; done))
   refine AaT (Aec k _ _ _ hR) (by simp) [2] [] [2] rfl (.cons (.same (by simp)) .nil) (by simp) (by decide) (by simp) (by simp) (.inl rfl) (by simp) (by simp) ?_;try simp
   repeat' apply And.intro
   any_goals (first | exact hG _ | refine hK _ _ _ ?_ | omega | (unfold maxLen; omega) | (simp; done) | (simp; omega))
   refine AWd.wk [(2,AV.ptr 0 0),(3,AV.ptr 1 0),(4,AV.ptr 2 0)] [(0,.cells [AV.int .i64 v.Author,AV.int .i64 v.Number,AV.str v.Prev,AV.int .i64 v.Time,AV.int .i64 v.Kind,AV.int .i64 v.A,AV.int .i64 v.B,AV.int .i64 v.C,AV.lst false false (List.map (AV.int .i64) v.Lst),AV.slc 3 0 3 v.Pins.length false,AV.str v.Body,AV.int .i64 v.Seal_Key,AV.str v.Seal_Digest]),(1,.cells [AV.int .i64 0]),(2,.cells [AV.lst false false (List.map (AV.int .u8) l)]),(3,.grow (AaW (List.map AaA.av v.Pins)))] 4 (by simp) (by simp) (by simp) ?_;refine AWd.can ?_ fun T hT=>Can.freeze 3 (o := .grow (AaW (List.map AaA.av v.Pins))) (by simp) rfl [] [(0,.cells [AV.int .i64 v.Author,AV.int .i64 v.Number,AV.str v.Prev,AV.int .i64 v.Time,AV.int .i64 v.Kind,AV.int .i64 v.A,AV.int .i64 v.B,AV.int .i64 v.C,AV.lst false false (List.map (AV.int .i64) v.Lst),Q0 v.Pins,AV.str v.Body,AV.int .i64 v.Seal_Key,AV.str v.Seal_Digest])] trivial ⟨⟨by simp,.cells [AV.int .i64 v.Author,AV.int .i64 v.Number,AV.str v.Prev,AV.int .i64 v.Time,AV.int .i64 v.Kind,AV.int .i64 v.A,AV.int .i64 v.B,AV.int .i64 v.C,AV.lst false false (List.map (AV.int .i64) v.Lst),AV.slc 3 0 3 v.Pins.length false,AV.str v.Body,AV.int .i64 v.Seal_Key,AV.str v.Seal_Digest],by simp,.mk (.cons (.same _) (.cons (.same _) (.cons (.same _) (.cons (.same _) (.cons (.same _) (.cons (.same _) (.cons (.same _) (.cons (.same _) (.cons (.same _) (.cons (.l (by simp) (by simp) (by simp) (by simp)) (.cons (.same _) (.cons (.same _) (.cons (.same _) .nil)))))))))))))⟩,trivial⟩ hT;refine AWd.wk [(2,AV.ptr 0 0),(3,AV.ptr 1 0),(4,AV.ptr 2 0)] [(0,.cells [AV.int .i64 v.Author,AV.int .i64 v.Number,AV.str v.Prev,AV.int .i64 v.Time,AV.int .i64 v.Kind,AV.int .i64 v.A,AV.int .i64 v.B,AV.int .i64 v.C,AV.lst false false (List.map (AV.int .i64) v.Lst),Q0 v.Pins,AV.str v.Body,AV.int .i64 v.Seal_Key,AV.str v.Seal_Digest]),(1,.cells [AV.int .i64 0]),(2,.cells [AV.lst false false (List.map (AV.int .u8) l)])] 4 (by simp) (by simp) (by simp) ?_;by_cases hl0 : l.length=0
   ·rw [if_pos hl0] at hF;have hl1 : l = []:=List.length_eq_zero_iff.1 hl0;subst hl1;refine AWd.seqR [] [none,none,none,none,none,none,none] (by kernel_rfl) fun G K hG hK=>?_;try simp
    repeat' apply And.intro
    try any_goals (first | omega | (unfold maxLen; omega) | (simp; done))
    refine AaT (Abf k true rfl) (by simp) [] [] [] rfl (.cons (.same (by simp)) .nil) (by simp) (by decide) (by simp) (by simp) (.inl rfl) (by simp) (by simp) ?_;try simp
    repeat' apply And.intro
    any_goals (first | exact hG _ | refine hK _ _ _ ?_ | omega | (unfold maxLen; omega) | (simp; done) | (simp; omega))
    refine AWd.wk [(2,AV.ptr 0 0),(3,AV.ptr 1 0)] [(0,.cells [AV.int .i64 v.Author,AV.int .i64 v.Number,AV.str v.Prev,AV.int .i64 v.Time,AV.int .i64 v.Kind,AV.int .i64 v.A,AV.int .i64 v.B,AV.int .i64 v.C,AV.lst false false (List.map (AV.int .i64) v.Lst),Q0 v.Pins,AV.str v.Body,AV.int .i64 v.Seal_Key,AV.str v.Seal_Digest]),(1,.cells [AV.int .i64 0])] 4 (by simp) (by simp) (by simp) ?_;obtain ⟨cc,hc,hF⟩:=AaF hF;by_cases hc0 : cc=0
    ·rw [if_pos hc0] at hF;subst hc0;refine AWd.seqR [] [none,none,none,none] (by kernel_rfl) fun G K hG hK=>?_;try simp
     repeat' apply And.intro
     try any_goals (first | omega | (unfold maxLen; omega) | (simp; done))
     refine AaT (AcL k _ _ _ _ _ _ _ _ _ _ _ _ _ _ hc) (by simp) [] [] [] rfl (.cons (.same (by simp)) .nil) (by simp) (by decide) (by simp) (by simp) (.inl rfl) (by simp) (by simp) ?_;try simp
     repeat' apply And.intro
     try any_goals (first | omega | (unfold maxLen; omega) | (simp; done))
     refine AaT (Abf k true rfl) (by simp) [] [] [] rfl (.cons (.same (by simp)) .nil) (by simp) (by decide) (by simp) (by simp) (.inl rfl) (by simp) (by simp) ?_;try simp
     repeat' apply And.intro
     any_goals (first | exact hG _ | refine hK _ _ _ ?_ | omega | (unfold maxLen; omega) | (simp; done) | (simp; omega))
     refine AWd.wk [(2,AV.ptr 0 0),(3,AV.ptr 1 0)] [(0,.cells [AV.int .i64 v.Author,AV.int .i64 v.Number,AV.str v.Prev,AV.int .i64 v.Time,AV.int .i64 v.Kind,AV.int .i64 v.A,AV.int .i64 v.B,AV.int .i64 v.C,AV.lst false false (List.map (AV.int .i64) v.Lst),Q0 v.Pins,AV.str v.Body,AV.int .i64 v.Seal_Key,AV.str v.Seal_Digest]),(1,.cells [AV.int .i64 0])] 4 (by simp) (by simp) (by simp) ?_;obtain ⟨bb,hb,hF⟩:=AaF hF;cases bb with
     | false =>
      simp only [Bool.false_eq_true,if_false] at hF;simp only [Option.some.injEq,Prod.mk.injEq] at hF;have hv:=hF;refine AWd.pan AdL [] [none,none,none] 2 [2] [(2,AV.ptr 0 0),(3,AV.ptr 1 0)] [(0,.cells [AV.int .i64 v.Author,AV.int .i64 v.Number,AV.str v.Prev,AV.int .i64 v.Time,AV.int .i64 v.Kind,AV.int .i64 v.A,AV.int .i64 v.B,AV.int .i64 v.C,AV.lst false false (List.map (AV.int .i64) v.Lst),Q0 v.Pins,AV.str v.Body,AV.int .i64 v.Seal_Key,AV.str v.Seal_Digest]),(1,.cells [AV.int .i64 0])] _ rfl (by kernel_rfl) (by simp) (by simp) (fun M=>⟨by simp,by simp,.inr ⟨rfl,⟨[AV.int .i64 v.Author,AV.int .i64 v.Number,AV.str v.Prev,AV.int .i64 v.Time,AV.int .i64 v.Kind,AV.int .i64 v.A,AV.int .i64 v.B,AV.int .i64 v.C,AV.lst false false (List.map (AV.int .i64) v.Lst),Q0 v.Pins,AV.str v.Body,AV.int .i64 v.Seal_Key,AV.str v.Seal_Digest],.int .i64 0,by simp,rfl,by simp⟩,hv.1.symm,hv.2.symm⟩⟩) fun K hK=>?_;simp only [msk,List.contains_cons,List.contains_nil,Nat.reduceBEq,Bool.or_false,Bool.or_true,Bool.false_or,Bool.false_eq_true,if_false,if_true,Nat.reduceAdd,Nat.zero_add];try simp
      repeat' apply And.intro
      try any_goals (first | omega | (unfold maxLen; omega) | (simp; done))
      refine AaT (AcD k _ _ _ _ _ _ _ _ _ _ _ _ _ _ hb) (by simp) [] [] [] rfl (.cons (.same (by simp)) .nil) (by simp) (by decide) (by simp) (by simp) (.inl rfl) (by simp) (by simp) ?_;try simp
      repeat' apply And.intro
      any_goals (first | exact hK _ _ _ [] [] (OpP.call rfl _ _ _ rfl 87 [] rfl (by simp) (Abb k false rfl) [] rfl (.cons (.same (by simp)) .nil) (by simp) (by decide)) (by kernel_rfl) | omega | (unfold maxLen; omega) | (simp; done) | (simp; omega))
     | true =>
      simp only [if_true] at hF;simp only [Option.some.injEq,Prod.mk.injEq] at hF;have hv:=hF;obtain ⟨rfl,rfl⟩:=hv;refine AWd.seqR [] [none,none,none] (by kernel_rfl) fun G K hG hK=>?_;try simp
      repeat' apply And.intro
      try any_goals (first | omega | (unfold maxLen; omega) | (simp; done))
      refine AaT (AcD k _ _ _ _ _ _ _ _ _ _ _ _ _ _ hb) (by simp) [] [] [] rfl (.cons (.same (by simp)) .nil) (by simp) (by decide) (by simp) (by simp) (.inl rfl) (by simp) (by simp) ?_;try simp
      repeat' apply And.intro
      try any_goals (first | omega | (unfold maxLen; omega) | (simp; done))
      refine AaT (Abf k true rfl) (by simp) [] [] [] rfl (.cons (.same (by simp)) .nil) (by simp) (by decide) (by simp) (by simp) (.inl rfl) (by simp) (by simp) ?_;try simp
      repeat' apply And.intro
      any_goals (first | exact hG _ | refine hK _ _ _ ?_ | omega | (unfold maxLen; omega) | (simp; done) | (simp; omega))
      refine AWd.wk [(2,AV.ptr 0 0),(3,AV.ptr 1 0)] [(0,.cells [AV.int .i64 v.Author,AV.int .i64 v.Number,AV.str v.Prev,AV.int .i64 v.Time,AV.int .i64 v.Kind,AV.int .i64 v.A,AV.int .i64 v.B,AV.int .i64 v.C,AV.lst false false (List.map (AV.int .i64) v.Lst),Q0 v.Pins,AV.str v.Body,AV.int .i64 v.Seal_Key,AV.str v.Seal_Digest]),(1,.cells [AV.int .i64 0])] 4 (by simp) (by simp) (by simp) ?_;refine AWd.seqR [] [none,none,none] (by kernel_rfl) fun G K hG hK=>?_;try simp
      repeat' apply And.intro
      any_goals (first | exact hG _ | refine hK _ _ _ ?_ | omega | (unfold maxLen; omega) | (simp; done) | (simp; omega))
      refine AWd.ret ⟨by simp,by simp,.inl ⟨rfl,by simp,by simp⟩⟩
    ·rw [if_neg hc0] at hF;simp only [Option.some.injEq,Prod.mk.injEq] at hF;have hv:=hF;refine AWd.pan AdL [] [none,none,none,none] 3 [3] [(2,AV.ptr 0 0),(3,AV.ptr 1 0)] [(0,.cells [AV.int .i64 v.Author,AV.int .i64 v.Number,AV.str v.Prev,AV.int .i64 v.Time,AV.int .i64 v.Kind,AV.int .i64 v.A,AV.int .i64 v.B,AV.int .i64 v.C,AV.lst false false (List.map (AV.int .i64) v.Lst),Q0 v.Pins,AV.str v.Body,AV.int .i64 v.Seal_Key,AV.str v.Seal_Digest]),(1,.cells [AV.int .i64 0])] _ rfl (by kernel_rfl) (by simp) (by simp) (fun M=>⟨by simp,by simp,.inr ⟨rfl,⟨[AV.int .i64 v.Author,AV.int .i64 v.Number,AV.str v.Prev,AV.int .i64 v.Time,AV.int .i64 v.Kind,AV.int .i64 v.A,AV.int .i64 v.B,AV.int .i64 v.C,AV.lst false false (List.map (AV.int .i64) v.Lst),Q0 v.Pins,AV.str v.Body,AV.int .i64 v.Seal_Key,AV.str v.Seal_Digest],.int .i64 0,by simp,rfl,by simp⟩,hv.1.symm,hv.2.symm⟩⟩) fun K hK=>?_;simp only [msk,List.contains_cons,List.contains_nil,Nat.reduceBEq,Bool.or_false,Bool.or_true,Bool.false_or,Bool.false_eq_true,if_false,if_true,Nat.reduceAdd,Nat.zero_add];try simp [hc0]
     repeat' apply And.intro
     try any_goals (first | omega | (unfold maxLen; omega) | (simp; done))
     refine AaT (AcL k _ _ _ _ _ _ _ _ _ _ _ _ _ _ hc) (by simp) [] [] [] rfl (.cons (.same (by simp)) .nil) (by simp) (by decide) (by simp) (by simp) (.inl rfl) (by simp) (by simp) ?_;try simp [hc0]
     repeat' apply And.intro
     any_goals (first | exact hK _ _ _ [] [] (OpP.call rfl _ _ _ rfl 87 [] rfl (by simp) (Abb k false rfl) [] rfl (.cons (.same (by simp [hc0])) .nil) (by simp) (by decide)) (by kernel_rfl) | omega | (unfold maxLen; omega) | (simp; done) | (simp; omega))
   ·rw [if_neg hl0] at hF;simp only [Option.some.injEq,Prod.mk.injEq] at hF;have hv:=hF;have hl1 : l≠[]:=fun e=>hl0 (by rw [e]; rfl);refine AWd.pan AdL [] [none,none,none,none,none,none,none] 6 [6] [(2,AV.ptr 0 0),(3,AV.ptr 1 0)] [(0,.cells [AV.int .i64 v.Author,AV.int .i64 v.Number,AV.str v.Prev,AV.int .i64 v.Time,AV.int .i64 v.Kind,AV.int .i64 v.A,AV.int .i64 v.B,AV.int .i64 v.C,AV.lst false false (List.map (AV.int .i64) v.Lst),Q0 v.Pins,AV.str v.Body,AV.int .i64 v.Seal_Key,AV.str v.Seal_Digest]),(1,.cells [AV.int .i64 0])] _ rfl (by kernel_rfl) (by simp) (by simp) (fun M=>⟨by simp,by simp,.inr ⟨rfl,⟨[AV.int .i64 v.Author,AV.int .i64 v.Number,AV.str v.Prev,AV.int .i64 v.Time,AV.int .i64 v.Kind,AV.int .i64 v.A,AV.int .i64 v.B,AV.int .i64 v.C,AV.lst false false (List.map (AV.int .i64) v.Lst),Q0 v.Pins,AV.str v.Body,AV.int .i64 v.Seal_Key,AV.str v.Seal_Digest],.int .i64 0,by simp,rfl,by simp⟩,hv.1.symm,hv.2.symm⟩⟩) fun K hK=>?_;simp only [msk,List.contains_cons,List.contains_nil,Nat.reduceBEq,Bool.or_false,Bool.or_true,Bool.false_or,Bool.false_eq_true,if_false,if_true,Nat.reduceAdd,Nat.zero_add];try simp [hl0,hl1]
    repeat' apply And.intro
    any_goals (first | exact hK _ _ _ [] [] (OpP.call rfl _ _ _ rfl 87 [] rfl (by simp) (Abb k false rfl) [] rfl (.cons (.same (by simp [hl0,hl1])) .nil) (by simp) (by decide)) (by kernel_rfl) | omega | (unfold maxLen; omega) | (simp; done) | (simp; omega))
theorem Aes (k : Nat) (v0 : (List Int)) (v1 : (List Int)) (v2 : Bool) (hF : Aav k v0 v1=some v2) :
 AbK Try.prog 92 [AV.lst false false (List.map (AV.int .i64) v0),AV.lst false false (List.map (AV.int .i64) v1)] [] (AV.bool v2) []:=by
 unfold Aav at hF;refine EN Try.func92 ?_;intro c0 w0 Q h0 hQ
 refine WK [(0,Lz v0),(1,Lz v1)] [] 0 (by simp) (by simp) ?_;refine SW trivial [] [none] [] [] [] [] 0 ?_;refine AW.seq fun K96 hK96=>?_;refine SW trivial [] [none,none,none,none,none] [] [(10,AV.bool ((v0.length : Int) !=(v1.length : Int)))] [] [] 0 ?_;by_cases h1 : (v0.length : Int)≠(v1.length : Int)
 ·replace hF:=AaQ h1 hF;have h1_:=Abm h1;have h1__:=Abo h1;have F1:=A3 h1 h1_ h1__;refine CT (by simp [F1] <;> omega) ?_;refine SW F1 [] [none] [0,1,10] [(4,AV.bool false)] [] [] 0 ?_;simp only [Option.some.injEq] at hF;subst hF;refine AW.ret (hQ _ _ _ ?_ (AaC ?_)).1
  ·simp [Try.f92,F1]
  ·simp [F1]
 ·replace hF:=AaR h1 hF;have h1q : (v0.length : Int)=(v1.length : Int):=Classical.not_not.1 h1;have h1_:=Abr h1q;have h1__:=Abp h1q;refine CF (by simp [h1_,h1__] <;> omega) ?_;refine AW.skip ?_;refine hK96 _ _ _ ?_;refine AW.seq fun K141 hK141=>?_;refine SW (A2 h1_ h1__) [] [none,none,none] [10] [(12,Iz (v0.length : Int)),(13,Iz 0)] [] [] 0 ?_;refine AW.block ?_;refine AW.loopF (α:=Int) (fun n v3=>Aav.L1 k v0 v1 n v3=some v2) (fun v3=>[(0,Lz v0),(1,Lz v1),(12,Iz (v0.length : Int)),(13,Iz v3)]) (fun v3=>[]) 0 k (0) hF (by simp [h1_,h1__]) (by simp [h1_,h1__]) (by simp) ?_;rintro (_|n1) v3 hF K173 hK173
  ·try dsimp only at hF
   rw [Aav.L1] at hF; cases hF
  try dsimp only at hF
  rw [Aav.L1] at hF;refine SW (A2 h1_ h1__) [] [none] [] [(14,AV.bool (decide (v3<(v0.length : Int))))] [] [] 0 ?_;refine AW.seq fun K175 hK175=>?_;by_cases h2 : v3<(v0.length : Int)
  ·replace hF:=AaQ h2 hF;have h2_:=h2;try simp at h2_
   have F2:=A4 h1_ h1__ h2 h2_;refine CT (by simp [F2] <;> omega) ?_;refine AW.skip ?_;refine hK175 _ _ _ ?_;refine AW.seq fun K179 hK179=>?_;refine AW.block ?_;refine SW F2 [] [none,none] [] [(5,Iz v3)] [] [] 0 ?_;refine SR [] [none,none,none,none,none,none,none,none,none] fun _ _ g r=>?_;obtain ⟨v4,h3,h4,h5,hF⟩:=Aah hF;have h5_:=Aa7 h5;try simp at h5_
   have h4_:=h4;try simp at h4_
   obtain ⟨v5,h6,h7,h8,hF⟩:=Aah hF;have h8_:=Aa7 h8;try simp at h8_
   have h7_:=h7;try simp at h7_
   have F3:=A9 F2 h3 h4 h5 h5_ h4_ h6 h7 (A3 h8 h8_ h7_);refine TL F3 g r [5] [(24,AV.bool (v4 !=v5))] [] [] 0 ?_;by_cases h9 : v4≠v5
   ·replace hF:=AaQ h9 hF;have h9_:=Abm h9;have h9__:=Abo h9;have F4:=A4 F3 h9 h9_ h9__;refine CT (by simp [F4] <;> omega) ?_;refine SW F4 [] [none] [0,1,12,13,24] [(4,AV.bool false)] [] [] 0 ?_;simp only [Option.some.injEq] at hF;subst hF;refine AW.ret (hQ _ _ _ ?_ (AaC ?_)).1
    ·simp [Try.f92,F4]
    ·simp [F4]
   ·replace hF:=AaR h9 hF;have h9q : v4=v5:=Classical.not_not.1 h9;have h9_:=Abr h9q;have h9__:=Abp h9q;have F5:=A3 F3 h9_ h9__;refine CF (by simp [F5] <;> omega) ?_;refine AW.skip ?_;refine hK179 _ _ _ ?_;refine RG [] [none,none] fun _ _ g r=>?_;try simp [F5]
    and_intros <;> first | exact GK g | apply r | omega | (simp [maxLen,F5] <;> omega)
    refine hK173 _ _ _ ?_;exact NX (k':=n1) (IntKind.wrap .i64 (v3+1)) hF (by simp [F5]) (by simp [F5])
  ·replace hF:=AaR h2 hF;have h2_:=h2;try simp at h2_
   have F6:=A4 h1_ h1__ h2 h2_;refine CF (by simp [F6] <;> omega) ?_;refine AW.exit ?_;try simp
   refine hK141 _ _ _ ?_;refine SW F6 [] [none] [0,1,12,13] [(4,AV.bool true)] [] [] 0 ?_;simp only [Option.some.injEq] at hF;subst hF;refine AW.ret (hQ _ _ _ ?_ (AaC ?_)).1
   ·simp [Try.f92,F6]
   ·simp [F6]
theorem AdV (k : Nat) (v0 : (List AaA)) (v1 : (List AaA)) (v2 : Bool) (hF : Aab k v0 v1=some v2) :
 AbK Try.prog 93 [Q0 v0,Q0 v1] [] (AV.bool v2) []:=by
 unfold Aab at hF;refine EN Try.func93 ?_;intro c0 w0 Q h0 hQ
 refine WK [(0,Q0 v0),(1,Q0 v1)] [] 0 (by simp) (by simp) ?_;refine SW trivial [] [none] [] [] [] [] 0 ?_;refine AW.seq fun K96 hK96=>?_;refine SW trivial [] [none,none,none,none,none] [] [(10,AV.bool ((v0.length : Int) !=(v1.length : Int)))] [] [] 0 ?_;by_cases h1 : (v0.length : Int)≠(v1.length : Int)
 ·replace hF:=AaQ h1 hF;have h1_:=Abm h1;have h1__:=Abo h1;have F1:=A3 h1 h1_ h1__;refine CT (by simp [F1] <;> omega) ?_;refine SW F1 [] [none] [0,1,10] [(4,AV.bool false)] [] [] 0 ?_;simp only [Option.some.injEq] at hF;subst hF;refine AW.ret (hQ _ _ _ ?_ (AaC ?_)).1
  ·simp [Try.f93,F1]
  ·simp [F1]
 ·replace hF:=AaR h1 hF;have h1q : (v0.length : Int)=(v1.length : Int):=Classical.not_not.1 h1;have h1_:=Abr h1q;have h1__:=Abp h1q;refine CF (by simp [h1_,h1__] <;> omega) ?_;refine AW.skip ?_;refine hK96 _ _ _ ?_;refine AW.seq fun K141 hK141=>?_;refine SW (A2 h1_ h1__) [] [none,none,none] [10] [(12,Iz (v0.length : Int)),(13,Iz 0)] [] [] 0 ?_;refine AW.block ?_;refine AW.loopF (α:=Int) (fun n v3=>Aab.L1 k v0 v1 n v3=some v2) (fun v3=>[(0,Q0 v0),(1,Q0 v1),(12,Iz (v0.length : Int)),(13,Iz v3)]) (fun v3=>[]) 0 k (0) hF (by simp [h1_,h1__]) (by simp [h1_,h1__]) (by simp) ?_;rintro (_|n1) v3 hF K173 hK173
  ·try dsimp only at hF
   rw [Aab.L1] at hF; cases hF
  try dsimp only at hF
  rw [Aab.L1] at hF;refine SW (A2 h1_ h1__) [] [none] [] [(14,AV.bool (decide (v3<(v0.length : Int))))] [] [] 0 ?_;refine AW.seq fun K175 hK175=>?_;by_cases h2 : v3<(v0.length : Int)
  ·replace hF:=AaQ h2 hF;have h2_:=h2;try simp at h2_
   have F2:=A4 h1_ h1__ h2 h2_;refine CT (by simp [F2] <;> omega) ?_;refine AW.skip ?_;refine hK175 _ _ _ ?_;refine AW.seq fun K179 hK179=>?_;refine AW.block ?_;refine SW F2 [] [none,none] [] [(5,Iz v3)] [] [] 0 ?_;refine SR [] [none,none,none,none,none,none,none,none,none] fun _ _ g r=>?_;obtain ⟨v4,h3,h4,h5,hF⟩:=Aah hF;have h5_:=Aa7 h5;try simp at h5_
   have h4_:=h4;try simp at h4_
   obtain ⟨v5,h6,h7,h8,hF⟩:=Aah hF;have h8_:=Aa7 h8;try simp at h8_
   have h7_:=h7;try simp at h7_
   obtain ⟨v6,h9,hF⟩:=AeV hF;have h9_:=h9;try simp at h9_
   have F3:=A9 F2 h3 h4 h5 h5_ h4_ h6 h7 (A5 h8 h8_ h7_ h9 h9_);refine TL F3 g r [5] [(24,AV.bool (!v6))] [] [] 0 ?_;by_cases h10 : (!v6)=true
   ·replace hF:=AaQ h10 hF;have h10_:=h10;try simp at h10_
    have F4:=A3 F3 h10 h10_;refine CT (by simp [F4] <;> omega) ?_;refine SW F4 [] [none] [0,1,12,13,24] [(4,AV.bool false)] [] [] 0 ?_;simp only [Option.some.injEq] at hF;subst hF;refine AW.ret (hQ _ _ _ ?_ (AaC ?_)).1
    ·simp [Try.f93,F4]
    ·simp [F4]
   ·replace hF:=AaR h10 hF;have h10_:=h10;try simp at h10_
    have F5:=A3 F3 h10 h10_;refine CF (by simp [F5] <;> omega) ?_;refine AW.skip ?_;refine hK179 _ _ _ ?_;refine RG [] [none,none] fun _ _ g r=>?_;try simp [F5]
    and_intros <;> first | exact GK g | apply r | omega | (simp [maxLen,F5] <;> omega)
    refine hK173 _ _ _ ?_;exact NX (k':=n1) (IntKind.wrap .i64 (v3+1)) hF (by simp [F5]) (by simp [F5])
  ·replace hF:=AaR h2 hF;have h2_:=h2;try simp at h2_
   have F6:=A4 h1_ h1__ h2 h2_;refine CF (by simp [F6] <;> omega) ?_;refine AW.exit ?_;try simp
   refine hK141 _ _ _ ?_;refine SW F6 [] [none] [0,1,12,13] [(4,AV.bool true)] [] [] 0 ?_;simp only [Option.some.injEq] at hF;subst hF;refine AW.ret (hQ _ _ _ ?_ (AaC ?_)).1
   ·simp [Try.f93,F6]
   ·simp [F6]
theorem Ac1 (k : Nat) (v0 : Int) (v1 : Int) (v2 : ByteArray) (v3 : Int) (v4 : Int) (v5 : Int) (v6 : Int) (v7 : Int) (v8 : (List Int)) (v9 : (List AaA)) (v10 : ByteArray) (v11 : Int) (v12 : ByteArray) (v13 : Int) (v14 : Int) (v15 : ByteArray) (v16 : Int) (v17 : Int) (v18 : Int) (v19 : Int) (v20 : Int) (v21 : (List Int)) (v22 : (List AaA)) (v23 : ByteArray) (v24 : Int) (v25 : ByteArray) (v26 : Bool) (hF : Ab2 k v0 v1 v2 v3 v4 v5 v6 v7 v8 v9 v10 v11 v12 v13 v14 v15 v16 v17 v18 v19 v20 v21 v22 v23 v24 v25=some v26) :
 AbK Try.prog 53 [AV.agg [AV.int .i64 v0,AV.int .i64 v1,AV.str v2,AV.int .i64 v3,AV.int .i64 v4,AV.int .i64 v5,AV.int .i64 v6,AV.int .i64 v7,AV.lst false false (List.map (AV.int .i64) v8),Q0 v9,AV.str v10,AV.int .i64 v11,AV.str v12],AV.agg [AV.int .i64 v13,AV.int .i64 v14,AV.str v15,AV.int .i64 v16,AV.int .i64 v17,AV.int .i64 v18,AV.int .i64 v19,AV.int .i64 v20,AV.lst false false (List.map (AV.int .i64) v21),Q0 v22,AV.str v23,AV.int .i64 v24,AV.str v25]] [] (AV.bool v26) []:=by
 unfold Ab2 at hF;refine EN Try.func53 ?_;intro c0 w0 Q h0 hQ
 refine WK [(0,AV.agg [Iz v0,Iz v1,AV.str v2,Iz v3,Iz v4,Iz v5,Iz v6,Iz v7,Lz v8,Q0 v9,AV.str v10,Iz v11,AV.str v12]),(1,AV.agg [Iz v13,Iz v14,AV.str v15,Iz v16,Iz v17,Iz v18,Iz v19,Iz v20,Lz v21,Q0 v22,AV.str v23,Iz v24,AV.str v25])] [] 0 (by simp) (by simp) ?_;refine SW trivial [] [none,none,none] [0,1] [(2,AV.ptr 0 0),(3,AV.ptr 1 0)] [] [(0,.cells [Iz v0,Iz v1,AV.str v2,Iz v3,Iz v4,Iz v5,Iz v6,Iz v7,Lz v8,Q0 v9,AV.str v10,Iz v11,AV.str v12]),(1,.cells [Iz v13,Iz v14,AV.str v15,Iz v16,Iz v17,Iz v18,Iz v19,Iz v20,Lz v21,Q0 v22,AV.str v23,Iz v24,AV.str v25])] 2 ?_;refine SR [] [none,none,none,none,none,none,some (10,true),some (10,true),some (10,true),some (10,true),some (10,true),none,none,some (17,true),some (17,true),some (17,true),some (17,true),some (17,true),none,none,some (24,true),some (24,true),some (24,true),some (24,true),some (24,true),none,none,some (31,true),some (31,true),some (31,true),some (31,true),some (31,true),none,none,some (38,true),some (38,true),some (38,true),some (38,true),some (38,true),none,none,some (45,true),some (45,true),some (45,true),some (45,true),some (45,true),none,none,some (52,true),some (52,true),some (52,true),some (52,true),some (52,true),none,none,some (59,true),some (59,true),some (59,true),some (59,true),some (59,true),none,none,some (66,true),some (66,true),some (66,true),some (66,true),some (66,true),none,none,some (73,true),some (73,true),some (73,true),some (73,true),some (73,true),none,none,some (80,true),some (80,true),some (80,true),some (80,true),some (80,true),none,none] fun _ _ g r=>?_;by_cases h1 : v0=v13
 ·replace hF:=AaQ h1 hF;have h1q : v0=v13:=h1;have h1_:=Abr h1q;have h1__:=Abp h1q;by_cases h2 : v1=v14
  ·replace hF:=AaQ h2 hF;have h2q : v1=v14:=h2;have h2_:=Abr h2q;have h2__:=Abp h2q;by_cases h3 : (AbZ v2 v15)=true
   ·replace hF:=AaQ h3 hF;have h3_:=h3;try simp at h3_
    by_cases h4 : v3=v16
    ·replace hF:=AaQ h4 hF;have h4q : v3=v16:=h4;have h4_:=Abr h4q;have h4__:=Abp h4q;by_cases h5 : v4=v17
     ·replace hF:=AaQ h5 hF;have h5q : v4=v17:=h5;have h5_:=Abr h5q;have h5__:=Abp h5q;by_cases h6 : v5=v18
      ·replace hF:=AaQ h6 hF;have h6q : v5=v18:=h6;have h6_:=Abr h6q;have h6__:=Abp h6q;by_cases h7 : v6=v19
       ·replace hF:=AaQ h7 hF;have h7q : v6=v19:=h7;have h7_:=Abr h7q;have h7__:=Abp h7q;by_cases h8 : v7=v20
        ·replace hF:=AaQ h8 hF;have h8q : v7=v20:=h8;have h8_:=Abr h8q;have h8__:=Abp h8q;have F1:=A9 h1_ h1__ h2_ h2__ h3 h3_ h4_ h4__ (A8 h5_ h5__ h6_ h6__ h7_ h7__ h8_ h8__);try simp [F1]
         and_intros
         try any_goals first | omega | (simp [maxLen,F1] <;> omega)
         obtain ⟨v27,h9,hF⟩:=AaF hF;refine AC (Aes k _ _ _ h9) (.cons (.same (by simp [F1])) (.cons (.same (by simp [F1])) .nil)) ?_;by_cases h10 : v27=true
         ·replace hF:=AaQ h10 hF;have h10_:=h10;try simp at h10_
          have F2:=A3 F1 h10 h10_;try simp [F2]
          and_intros
          try any_goals first | omega | (simp [maxLen,F2] <;> omega)
          obtain ⟨v28,h11,hF⟩:=AaF hF;refine AC (AdV k _ _ _ h11) (.cons (.same (by simp [F2])) (.cons (.same (by simp [F2])) .nil)) ?_;by_cases h12 : v28=true
          ·replace hF:=AaQ h12 hF;have h12_:=h12;try simp at h12_
           by_cases h13 : (AbZ v10 v23)=true
           ·replace hF:=AaQ h13 hF;have h13_:=h13;try simp at h13_
            obtain ⟨v29,h14,hF⟩:=AeV hF;have h14_:=h14;try simp at h14_
            have F3:=A7 F2 h12 h12_ h13 h13_ h14 h14_;refine TL F3 g r [2,3] [(4,AV.bool v29)] [0,1] [] 2 ?_;simp only [Option.some.injEq] at hF;subst hF;refine AW.ret (hQ _ _ _ ?_ (AaC ?_)).1
            ·simp [Try.f53,F3]
            ·simp [F3]
           ·replace hF:=AaR h13 hF;have h13_:=h13;try simp at h13_
            have F4:=A5 F2 h12 h12_ h13 h13_;refine TL F4 g r [2,3] [(4,AV.bool false)] [0,1] [] 2 ?_;simp only [Option.some.injEq] at hF;subst hF;refine AW.ret (hQ _ _ _ ?_ (AaC ?_)).1
            ·simp [Try.f53,F4]
            ·simp [F4]
          ·replace hF:=AaR h12 hF;have h12_:=h12;try simp at h12_
           have F5:=A3 F2 h12 h12_;refine TL F5 g r [2,3] [(4,AV.bool false)] [0,1] [] 2 ?_;simp only [Option.some.injEq] at hF;subst hF;refine AW.ret (hQ _ _ _ ?_ (AaC ?_)).1
           ·simp [Try.f53,F5]
           ·simp [F5]
         ·replace hF:=AaR h10 hF;have h10_:=h10;try simp at h10_
          have F6:=A3 F1 h10 h10_;refine TL F6 g r [2,3] [(4,AV.bool false)] [0,1] [] 2 ?_;simp only [Option.some.injEq] at hF;subst hF;refine AW.ret (hQ _ _ _ ?_ (AaC ?_)).1
          ·simp [Try.f53,F6]
          ·simp [F6]
        ·replace hF:=AaR h8 hF;have h8_:=Abm h8;have h8__:=Abo h8;have F7:=A9 h1_ h1__ h2_ h2__ h3 h3_ h4_ h4__ (A9 h5_ h5__ h6_ h6__ h7_ h7__ h8 h8_ h8__);refine TL F7 g r [2,3] [(4,AV.bool false)] [0,1] [] 2 ?_;simp only [Option.some.injEq] at hF;subst hF;refine AW.ret (hQ _ _ _ ?_ (AaC ?_)).1
         ·simp [Try.f53,F7]
         ·simp [F7]
       ·replace hF:=AaR h7 hF;have h7_:=Abm h7;have h7__:=Abo h7;have F8:=A9 h1_ h1__ h2_ h2__ h3 h3_ h4_ h4__ (A7 h5_ h5__ h6_ h6__ h7 h7_ h7__);refine TL F8 g r [2,3] [(4,AV.bool false)] [0,1] [] 2 ?_;simp only [Option.some.injEq] at hF;subst hF;refine AW.ret (hQ _ _ _ ?_ (AaC ?_)).1
        ·simp [Try.f53,F8]
        ·simp [F8]
      ·replace hF:=AaR h6 hF;have h6_:=Abm h6;have h6__:=Abo h6;have F9:=A9 h1_ h1__ h2_ h2__ h3 h3_ h4_ h4__ (A5 h5_ h5__ h6 h6_ h6__);refine TL F9 g r [2,3] [(4,AV.bool false)] [0,1] [] 2 ?_;simp only [Option.some.injEq] at hF;subst hF;refine AW.ret (hQ _ _ _ ?_ (AaC ?_)).1
       ·simp [Try.f53,F9]
       ·simp [F9]
     ·replace hF:=AaR h5 hF;have h5_:=Abm h5;have h5__:=Abo h5;have F10:=A9 h1_ h1__ h2_ h2__ h3 h3_ h4_ h4__ (A3 h5 h5_ h5__);refine TL F10 g r [2,3] [(4,AV.bool false)] [0,1] [] 2 ?_;simp only [Option.some.injEq] at hF;subst hF;refine AW.ret (hQ _ _ _ ?_ (AaC ?_)).1
      ·simp [Try.f53,F10]
      ·simp [F10]
    ·replace hF:=AaR h4 hF;have h4_:=Abm h4;have h4__:=Abo h4;have F11:=A9 h1_ h1__ h2_ h2__ h3 h3_ h4 h4_ h4__;refine TL F11 g r [2,3] [(4,AV.bool false)] [0,1] [] 2 ?_;simp only [Option.some.injEq] at hF;subst hF;refine AW.ret (hQ _ _ _ ?_ (AaC ?_)).1
     ·simp [Try.f53,F11]
     ·simp [F11]
   ·replace hF:=AaR h3 hF;have h3_:=h3;try simp at h3_
    have F12:=A6 h1_ h1__ h2_ h2__ h3 h3_;refine TL F12 g r [2,3] [(4,AV.bool false)] [0,1] [] 2 ?_;simp only [Option.some.injEq] at hF;subst hF;refine AW.ret (hQ _ _ _ ?_ (AaC ?_)).1
    ·simp [Try.f53,F12]
    ·simp [F12]
  ·replace hF:=AaR h2 hF;have h2_:=Abm h2;have h2__:=Abo h2;have F13:=A5 h1_ h1__ h2 h2_ h2__;refine TL F13 g r [2,3] [(4,AV.bool false)] [0,1] [] 2 ?_;simp only [Option.some.injEq] at hF;subst hF;refine AW.ret (hQ _ _ _ ?_ (AaC ?_)).1
   ·simp [Try.f53,F13]
   ·simp [F13]
 ·replace hF:=AaR h1 hF;have h1_:=Abm h1;have h1__:=Abo h1;have F14:=A3 h1 h1_ h1__;refine TL F14 g r [2,3] [(4,AV.bool false)] [0,1] [] 2 ?_;simp only [Option.some.injEq] at hF;subst hF;refine AW.ret (hQ _ _ _ ?_ (AaC ?_)).1
  ·simp [Try.f53,F14]
  ·simp [F14]
theorem Adj (k : Nat) (v0 : Bool) (hF : Acl k=some v0) :
 AbK Try.prog 19 [] [] (AV.bool v0) []:=by
 unfold Acl at hF;refine EN Try.func19 ?_;intro c0 w0 Q h0 hQ
 refine WK [] [] 0 (by simp) (by simp) ?_;refine SW trivial [] [none] [] [] [] [] 0 ?_;refine SR [] [none,none,none,none] fun _ _ g r=>?_;try simp
 and_intros
 try any_goals first | omega | (simp [maxLen] <;> omega)
 obtain ⟨v1,h1,hF⟩:=AaF hF;refine AC (Ael k _ _ _ _ _ _ _ _ _ _ _ _ _ _ h1) (.cons (.agg (.cons (.same (by simp)) (.cons (.same (by simp)) (.cons (.same (by simp)) (.cons (.same (by simp)) (.cons (.same (by simp)) (.cons (.same (by simp)) (.cons (.same (by simp)) (.cons (.same (by simp)) (.cons (Coe.fl (by simp)) (.cons (Coe.fl (by simp)) (.cons (.same (by simp)) (.cons (.same (by simp)) (.cons (.same (by simp)) .nil)))))))))))))) .nil) ?_;refine TL trivial g r [] [(1,AV.ptr 0 0)] [] [(0,.cells [Iz v1.Author,Iz v1.Number,AV.str v1.Prev,Iz v1.Time,Iz v1.Kind,Iz v1.A,Iz v1.B,Iz v1.C,AV.lst false false (List.map (AV.int .i64) v1.Lst),Q0 v1.Pins,AV.str v1.Body,Iz v1.Seal_Key,AV.str v1.Seal_Digest])] 1 ?_;obtain ⟨v2,v3,h2,hF⟩:=AbR hF;refine CL trivial [] [none,none,none,none,none,none,none] (Ad7 k _ _ _ _ _ _ _ _ _ _ _ _ _ _ _ h2) [] [(2,AV.slc 1 0 1 v2.length false),(3,Iz v3)] [] [(1,.grow (List.map (AV.int .u8) v2))] 2 ?_;refine AW.frz 1 (o := .grow (List.map (AV.int .u8) v2)) (by simp) rfl [(2,Lb v2)] [] ⟨(.l (by simp) (by simp) (by simp) (by simp)),trivial⟩ trivial ?_;refine WK [(1,AV.ptr 0 0),(2,Lb v2),(3,Iz v3)] [(0,.cells [Iz v1.Author,Iz v1.Number,AV.str v1.Prev,Iz v1.Time,Iz v1.Kind,Iz v1.A,Iz v1.B,Iz v1.C,AV.lst false false (List.map (AV.int .i64) v1.Lst),Q0 v1.Pins,AV.str v1.Body,Iz v1.Seal_Key,AV.str v1.Seal_Digest])] 2 (by simp) (by simp) ?_;obtain ⟨v4,v5,h3,hF⟩:=AbR hF;refine CL trivial [] [none,none,none,none,none,none,none,none] (Ad8 k _ _ _ h3) [2] [(4,AV.ptr 2 0),(5,Iz v5)] [] [(2,.cells [Iz v4.Author,Iz v4.Number,AV.str v4.Prev,Iz v4.Time,Iz v4.Kind,Iz v4.A,Iz v4.B,Iz v4.C,AV.lst false false (List.map (AV.int .i64) v4.Lst),Q0 v4.Pins,AV.str v4.Body,Iz v4.Seal_Key,AV.str v4.Seal_Digest])] 3 ?_;refine SR [] [none,none,none,some (20,true),some (20,true),none,none,some (24,true),some (24,true),some (24,true),some (24,true),none,none,some (30,true),some (30,true),none,none,some (34,true),some (34,true),some (34,true),none,none,some (39,true),some (39,true),some (39,true),none,none,some (44,true),some (44,true),some (44,true),none,none,some (49,true),some (49,true),some (49,true),some (49,true),none,none] fun _ _ g r=>?_;by_cases h4 : v3=0
 ·replace hF:=AaQ h4 hF;have h4q : v3=0:=h4;have h4_:=Abr h4q;have h4__:=Abp h4q;by_cases h5 : v5=0
  ·replace hF:=AaQ h5 hF;have h5q : v5=0:=h5;have h5_:=Abr h5q;have h5__:=Abp h5q;have F1:=A6 h4_ h4__ h4q h5_ h5__ h5q;try simp [F1]
   and_intros
   try any_goals first | omega | (simp [maxLen,F1] <;> omega)
   obtain ⟨v6,h6,hF⟩:=AaF hF;refine AC (Acb k _ _ _ _ _ _ _ _ _ _ _ _ _ _ h6) (.cons (.same (by simp [F1])) .nil) ?_;by_cases h7 : (v6.size : Int)=32
   ·replace hF:=AaQ h7 hF;have h7q : (v6.size : Int)=32:=h7;have h7_:=Abr h7q;have h7__:=Abp h7q;have F2:=A4 F1 h7_ h7__ h7q;try simp [F2]
    and_intros
    try any_goals first | omega | (simp [maxLen,F2] <;> omega)
    obtain ⟨v7,h8,hF⟩:=AaF hF;refine AC (AcD k _ _ _ _ _ _ _ _ _ _ _ _ _ _ h8) (.cons (.same (by simp [F2])) .nil) ?_;by_cases h9 : v7=true
    ·replace hF:=AaQ h9 hF;have h9_:=h9;try simp at h9_
     have F3:=A3 F2 h9 h9_;try simp [F3]
     and_intros
     try any_goals first | omega | (simp [maxLen,F3] <;> omega)
     obtain ⟨v8,h10,hF⟩:=AaF hF;refine AC (AcL k _ _ _ _ _ _ _ _ _ _ _ _ _ _ h10) (.cons (.same (by simp [F3])) .nil) ?_;by_cases h11 : v8=0
     ·replace hF:=AaQ h11 hF;have h11q : v8=0:=h11;have h11_:=Abr h11q;have h11__:=Abp h11q;by_cases h12 : v4.A=5
      ·replace hF:=AaQ h12 hF;have h12q : v4.A=5:=h12;have h12_:=Abr h12q;have h12__:=Abp h12q;have F4:=A7 F3 h11_ h11__ h11q h12_ h12__ h12q;try simp [F4]
       and_intros
       try any_goals first | omega | (simp [maxLen,F4] <;> omega)
       obtain ⟨v9,h13,hF⟩:=AaF hF;refine AC (Ac1 k _ _ _ _ _ _ _ _ _ _ _ _ _ _ _ _ _ _ _ _ _ _ _ _ _ _ _ h13) (.cons (.same (by simp [F4])) (.cons (.same (by simp [F4])) .nil)) ?_;by_cases h14 : v9=true
       ·replace hF:=AaQ h14 hF;have h14_:=h14;try simp at h14_
        have F5:=A3 F4 h14 h14_;try simp [F5]
        and_intros
        try any_goals first | omega | (simp [maxLen,F5] <;> omega)
        obtain ⟨v10,h15,hF⟩:=AaF hF;refine AC (Ac1 k _ _ _ _ _ _ _ _ _ _ _ _ _ _ _ _ _ _ _ _ _ _ _ _ _ _ _ h15) (.cons (.same (by simp [F5])) (.cons (.agg (.cons (.same (by simp [F5])) (.cons (.same (by simp [F5])) (.cons (.same (by simp [F5])) (.cons (.same (by simp [F5])) (.cons (.same (by simp [F5])) (.cons (.same (by simp [F5])) (.cons (.same (by simp [F5])) (.cons (.same (by simp [F5])) (.cons (Coe.fl (by simp [F5])) (.cons (Coe.fl (by simp [F5])) (.cons (.same (by simp [F5])) (.cons (.same (by simp [F5])) (.cons (.same (by simp [F5])) .nil)))))))))))))) .nil)) ?_;refine TL F5 g r [1,3,4,5] [(0,AV.bool (!v10))] [0,2] [] 3 ?_;simp only [Option.some.injEq] at hF;subst hF;refine AW.ret (hQ _ _ _ ?_ (AaC ?_)).1
        ·simp [Try.f19,F5]
        ·simp [F5]
       ·replace hF:=AaR h14 hF;have h14_:=h14;try simp at h14_
        have F6:=A3 F4 h14 h14_;refine TL F6 g r [1,3,4,5] [(0,AV.bool false)] [0,2] [] 3 ?_;simp only [Option.some.injEq] at hF;subst hF;refine AW.ret (hQ _ _ _ ?_ (AaC ?_)).1
        ·simp [Try.f19,F6]
        ·simp [F6]
      ·replace hF:=AaR h12 hF;have h12_:=Abm h12;have h12__:=Abo h12;have F7:=A7 F3 h11_ h11__ h11q h12 h12_ h12__;refine TL F7 g r [1,3,4,5] [(0,AV.bool false)] [0,2] [] 3 ?_;simp only [Option.some.injEq] at hF;subst hF;refine AW.ret (hQ _ _ _ ?_ (AaC ?_)).1
       ·simp [Try.f19,F7]
       ·simp [F7]
     ·replace hF:=AaR h11 hF;have h11_:=Abm h11;have h11__:=Abo h11;have F8:=A4 F3 h11 h11_ h11__;refine TL F8 g r [1,3,4,5] [(0,AV.bool false)] [0,2] [] 3 ?_;simp only [Option.some.injEq] at hF;subst hF;refine AW.ret (hQ _ _ _ ?_ (AaC ?_)).1
      ·simp [Try.f19,F8]
      ·simp [F8]
    ·replace hF:=AaR h9 hF;have h9_:=h9;try simp at h9_
     have F9:=A3 F2 h9 h9_;refine TL F9 g r [1,3,4,5] [(0,AV.bool false)] [0,2] [] 3 ?_;simp only [Option.some.injEq] at hF;subst hF;refine AW.ret (hQ _ _ _ ?_ (AaC ?_)).1
     ·simp [Try.f19,F9]
     ·simp [F9]
   ·replace hF:=AaR h7 hF;have h7_:=Abm h7;have h7__:=Abo h7;have F10:=A4 F1 h7 h7_ h7__;refine TL F10 g r [1,3,4,5] [(0,AV.bool false)] [0,2] [] 3 ?_;simp only [Option.some.injEq] at hF;subst hF;refine AW.ret (hQ _ _ _ ?_ (AaC ?_)).1
    ·simp [Try.f19,F10]
    ·simp [F10]
  ·replace hF:=AaR h5 hF;have h5_:=Abm h5;have h5__:=Abo h5;have F11:=A6 h4_ h4__ h4q h5 h5_ h5__;refine TL F11 g r [1,3,4,5] [(0,AV.bool false)] [0,2] [] 3 ?_;simp only [Option.some.injEq] at hF;subst hF;refine AW.ret (hQ _ _ _ ?_ (AaC ?_)).1
   ·simp [Try.f19,F11]
   ·simp [F11]
 ·replace hF:=AaR h4 hF;have h4_:=Abm h4;have h4__:=Abo h4;have F12:=A3 h4 h4_ h4__;refine TL F12 g r [1,3,4,5] [(0,AV.bool false)] [0,2] [] 3 ?_;simp only [Option.some.injEq] at hF;subst hF;refine AW.ret (hQ _ _ _ ?_ (AaC ?_)).1
  ·simp [Try.f19,F12]
  ·simp [F12]
theorem Afb (k : Nat) (v0 : Int) (v1 : Bool) (hF : Adz k v0=some v1) :
 AbK Try.prog 94 [AV.int .i64 v0] [] (AV.bool v1) []:=by
 unfold Adz at hF;refine EN Try.func94 ?_;intro c0 w0 Q h0 hQ
 refine WK [(0,Iz v0)] [] 0 (by simp) (by simp) ?_;refine SW trivial [] [none] [] [] [] [] 0 ?_;refine SR [] [none,none,none,some (5,true),some (5,true),none,none] fun _ _ g r=>?_;by_cases h1 : 0≤v0
 ·replace hF:=AaQ h1 hF;have h1_:=h1;try simp at h1_
  refine TL (A2 h1 h1_) g r [0] [(2,AV.bool (decide (v0<64)))] [] [] 0 ?_;simp only [Option.some.injEq] at hF;subst hF;refine AW.ret (hQ _ _ _ ?_ (AaC ?_)).1
  ·simp [Try.f94,h1,h1_]
  ·simp [h1,h1_]
 ·replace hF:=AaR h1 hF;have h1_:=h1;try simp at h1_
  refine TL (A2 h1 h1_) g r [0] [(2,AV.bool false)] [] [] 0 ?_;simp only [Option.some.injEq] at hF;subst hF;refine AW.ret (hQ _ _ _ ?_ (AaC ?_)).1
  ·simp [Try.f94,h1,h1_]
  ·simp [h1,h1_]
theorem AdK (k : Nat) (v0 : Int) (v1 : Int) (v2 : Bool) (hF : AdG k v0 v1=some v2) :
 AbK Try.prog 95 [AV.int .i64 v0,AV.int .i64 v1] [] (AV.bool v2) []:=by
 unfold AdG at hF;refine EN Try.func95 ?_;intro c0 w0 Q h0 hQ
 refine WK [(0,Iz v0),(1,Iz v1)] [] 0 (by simp) (by simp) ?_;refine SW trivial [] [none] [] [] [] [] 0 ?_;refine SR [] [none,none,none,some (7,true),some (7,true),some (7,true),none,none] fun _ _ g r=>?_;by_cases h1 : 0≤v0
 ·replace hF:=AaQ h1 hF;have h1_:=h1;try simp at h1_
  refine TL (A2 h1 h1_) g r [0,1] [(4,AV.bool (decide (v0≤v1)))] [] [] 0 ?_;simp only [Option.some.injEq] at hF;subst hF;refine AW.ret (hQ _ _ _ ?_ (AaC ?_)).1
  ·simp [Try.f95,h1,h1_]
  ·simp [h1,h1_]
 ·replace hF:=AaR h1 hF;have h1_:=h1;try simp at h1_
  refine TL (A2 h1 h1_) g r [0,1] [(4,AV.bool false)] [] [] 0 ?_;simp only [Option.some.injEq] at hF;subst hF;refine AW.ret (hQ _ _ _ ?_ (AaC ?_)).1
  ·simp [Try.f95,h1,h1_]
  ·simp [h1,h1_]
abbrev AfC (v0 : Int) (v1 : Int) (v2 : ByteArray) (v3 : Int) (v4 : Int) (v5 : Int) (v6 : Int) (v7 : Int) (v8 : (List Int)) (v9 : (List AaA)) (v10 : ByteArray) (v11 : Int) (v12 : ByteArray) : Aaq := .cells [Iz v0,Iz v1,AV.str v2,Iz v3,Iz v4,Iz v5,Iz v6,Iz v7,Lz v8,Q0 v9,AV.str v10,Iz v11,AV.str v12]
theorem Agu (k : Nat) (v0 : Int) (v1 : Int) (v2 : ByteArray) (v3 : Int) (v4 : Int) (v5 : Int) (v6 : Int) (v7 : Int) (v8 : (List Int)) (v9 : (List AaA)) (v10 : ByteArray) (v11 : Int) (v12 : ByteArray) (v13 : Bool) (hF : AbL k v0 v1 v2 v3 v4 v5 v6 v7 v8 v9 v10 v11 v12=some v13) :
 AbK Try.prog 96 [AV.agg [AV.int .i64 v0,AV.int .i64 v1,AV.str v2,AV.int .i64 v3,AV.int .i64 v4,AV.int .i64 v5,AV.int .i64 v6,AV.int .i64 v7,AV.lst false false (List.map (AV.int .i64) v8),Q0 v9,AV.str v10,AV.int .i64 v11,AV.str v12]] [] (AV.bool v13) []:=by
 unfold AbL at hF;refine EN Try.func96 ?_;intro c0 w0 Q h0 hQ
 refine WK [(0,AV.agg [Iz v0,Iz v1,AV.str v2,Iz v3,Iz v4,Iz v5,Iz v6,Iz v7,Lz v8,Q0 v9,AV.str v10,Iz v11,AV.str v12])] [] 0 (by simp) (by simp) ?_;refine SW trivial [] [none,none] [0] [(1,AV.ptr 0 0)] [] [(0,AfC v0 v1 v2 v3 v4 v5 v6 v7 v8 v9 v10 v11 v12)] 1 ?_;refine AW.seq fun K112 hK112=>?_;refine SR [] [none,none,none,none,none,some (8,false),some (8,false),some (8,false),some (8,false),none,none,some (14,false),some (14,false),some (14,false),some (14,false),none,none,some (20,false),some (20,false),some (20,false),some (20,false),none] fun _ _ g r=>?_;try simp
 and_intros
 try any_goals first | omega | (simp [maxLen] <;> omega)
 obtain ⟨v14,h1,hF⟩:=AaF hF;refine AC (AdK k _ _ _ h1) (.cons (.same (by simp)) (.cons (.same (by simp)) .nil)) ?_;by_cases h2 : (!v14)=true
 ·replace hF:=AaQ h2 hF;have h2_:=h2;try simp at h2_
  refine TL (A2 h2 h2_) g r [] [(25,AV.bool true)] [] [] 1 ?_;refine CT (by simp [h2,h2_]) ?_;refine SW (A2 h2 h2_) [] [none] [1,25] [(2,AV.bool false)] [0] [] 1 ?_;simp only [Option.some.injEq] at hF;subst hF;refine AW.ret (hQ _ _ _ ?_ (AaC ?_)).1
  ·simp [Try.f96,h2,h2_]
  ·simp [h2,h2_]
 ·replace hF:=AaR h2 hF;have h2_:=h2;try simp at h2_
  try simp [h2,h2_]
  and_intros
  try any_goals first | omega | (simp [h2,h2_,maxLen] <;> omega)
  obtain ⟨v15,h3,hF⟩:=AaF hF;refine AC (AdK k _ _ _ h3) (.cons (.same (by simp [h2,h2_])) (.cons (.same (by simp [h2,h2_])) .nil)) ?_;by_cases h4 : (!v15)=true
  ·replace hF:=AaQ h4 hF;have h4_:=h4;try simp at h4_
   have F1:=A4 h2 h2_ h4 h4_;refine TL F1 g r [] [(25,AV.bool true)] [] [] 1 ?_;refine CT (by simp [F1]) ?_;refine SW F1 [] [none] [1,25] [(2,AV.bool false)] [0] [] 1 ?_;simp only [Option.some.injEq] at hF;subst hF;refine AW.ret (hQ _ _ _ ?_ (AaC ?_)).1
   ·simp [Try.f96,F1]
   ·simp [F1]
  ·replace hF:=AaR h4 hF;have h4_:=h4;try simp at h4_
   have F2:=A4 h2 h2_ h4 h4_;try simp [F2]
   and_intros
   try any_goals first | omega | (simp [maxLen,F2] <;> omega)
   obtain ⟨v16,h5,hF⟩:=AaF hF;refine AC (AdK k _ _ _ h5) (.cons (.same (by simp [F2])) (.cons (.same (by simp [F2])) .nil)) ?_;by_cases h6 : (!v16)=true
   ·replace hF:=AaQ h6 hF;have h6_:=h6;try simp at h6_
    have F3:=A3 F2 h6 h6_;refine TL F3 g r [] [(25,AV.bool true)] [] [] 1 ?_;refine CT (by simp [F3]) ?_;refine SW F3 [] [none] [1,25] [(2,AV.bool false)] [0] [] 1 ?_;simp only [Option.some.injEq] at hF;subst hF;refine AW.ret (hQ _ _ _ ?_ (AaC ?_)).1
    ·simp [Try.f96,F3]
    ·simp [F3]
   ·replace hF:=AaR h6 hF;have h6_:=h6;try simp at h6_
    have F4:=A3 F2 h6 h6_;try simp [F4]
    and_intros
    try any_goals first | omega | (simp [maxLen,F4] <;> omega)
    obtain ⟨v17,h7,hF⟩:=AaF hF;refine AC (AdK k _ _ _ h7) (.cons (.same (by simp [F4])) (.cons (.same (by simp [F4])) .nil)) ?_;refine TL F4 g r [] [(25,AV.bool (!v17))] [] [] 1 ?_;by_cases h8 : (!v17)=true
    ·replace hF:=AaQ h8 hF;have h8_:=h8;try simp at h8_
     have F5:=A3 F4 h8 h8_;refine CT (by simp [F5] <;> omega) ?_;refine SW F5 [] [none] [1,25] [(2,AV.bool false)] [0] [] 1 ?_;simp only [Option.some.injEq] at hF;subst hF;refine AW.ret (hQ _ _ _ ?_ (AaC ?_)).1
     ·simp [Try.f96,F5]
     ·simp [F5]
    ·replace hF:=AaR h8 hF;have h8_:=h8;try simp at h8_
     have F6:=A3 F4 h8 h8_;refine CF (by simp [F6] <;> omega) ?_;refine AW.skip ?_;refine hK112 _ _ _ ?_;refine AW.seq fun K156 hK156=>?_;refine SW F6 [] [none] [25] [(3,Iz 0)] [] [] 1 ?_;refine AW.block ?_;refine AW.loopF (α:=Int) (fun n v18=>AbL.L1 k v0 v3 v4 v5 v6 v7 v8 n v18=some v13) (fun v18=>[(1,AV.ptr 0 0),(3,Iz v18)]) (fun v18=>[(0,AfC v0 v1 v2 v3 v4 v5 v6 v7 v8 v9 v10 v11 v12)]) 1 k (0) hF (by simp [F6]) (by simp [F6]) (by simp) ?_;rintro (_|n1) v18 hF K185 hK185
     ·try dsimp only at hF
      rw [AbL.L1] at hF; cases hF
     try dsimp only at hF
     rw [AbL.L1] at hF;refine AW.seq fun K187 hK187=>?_;refine SW F6 [] [none,none,none,none,none] [] [(30,AV.bool (decide (v18<(v8.length : Int))))] [] [] 1 ?_;by_cases h9 : v18<(v8.length : Int)
     ·replace hF:=AaQ h9 hF;have h9_:=h9;try simp at h9_
      have F7:=A3 F6 h9 h9_;refine CT (by simp [F7] <;> omega) ?_;refine AW.skip ?_;refine hK187 _ _ _ ?_;refine AW.seq fun K191 hK191=>?_;refine AW.block ?_;refine SR [] [none,none,none,none,none,none,none] fun _ _ g r=>?_;obtain ⟨v19,h10,h11,h12,hF⟩:=Aah hF;have h12_:=Aa7 h12;try simp at h12_
      have h11_:=h11;try simp at h11_
      have F8:=A6 F7 h10 h11 h12 h12_ h11_;try simp [F8]
      and_intros
      try any_goals first | omega | (simp [maxLen,F8] <;> omega)
      obtain ⟨v20,h13,hF⟩:=AaF hF;refine AC (AdK k _ _ _ h13) (.cons (.same (by simp [F8])) (.cons (.same (by simp [F8])) .nil)) ?_;refine TL F8 g r [] [(39,AV.bool (!v20))] [] [] 1 ?_;by_cases h14 : (!v20)=true
      ·replace hF:=AaQ h14 hF;have h14_:=h14;try simp at h14_
       have F9:=A3 F8 h14 h14_;refine CT (by simp [F9] <;> omega) ?_;refine SW F9 [] [none] [1,3,39] [(2,AV.bool false)] [0] [] 1 ?_;simp only [Option.some.injEq] at hF;subst hF;refine AW.ret (hQ _ _ _ ?_ (AaC ?_)).1
       ·simp [Try.f96,F9]
       ·simp [F9]
      ·replace hF:=AaR h14 hF;have h14_:=h14;try simp at h14_
       have F10:=A3 F8 h14 h14_;refine CF (by simp [F10] <;> omega) ?_;refine AW.skip ?_;refine hK191 _ _ _ ?_;refine RG [] [none,none,none] fun _ _ g r=>?_;try simp [F10]
       and_intros <;> first | exact GK g | apply r | omega | (simp [maxLen,F10] <;> omega)
       refine hK185 _ _ _ ?_;exact NX (k':=n1) (IntKind.wrap .i64 (v18+1)) hF (by simp [F10]) (by simp [F10])
     ·replace hF:=AaR h9 hF;have h9_:=h9;try simp at h9_
      have F11:=A3 F6 h9 h9_;refine CF (by simp [F11] <;> omega) ?_;refine AW.exit ?_;try simp
      refine hK156 _ _ _ ?_;refine AW.seq fun K202 hK202=>?_;refine SW F11 [] [none,none] [3] [(41,Iz v4)] [] [] 1 ?_;refine AW.block ?_;refine SW F11 [] [none,none] [] [(42,AV.bool (v4==1))] [] [] 1 ?_;by_cases h15 : v4=1
      ·replace hF:=AaQ h15 hF;have h15q : v4=1:=h15;have h15_:=Abr h15q;have h15__:=Abp h15q;have F12:=A4 F11 h15_ h15__ h15q;refine CT (by simp [F12] <;> omega) ?_;refine SR [] [none,none,none,none,some (47,true),some (47,true),some (47,true),some (47,true),some (47,true),none,none,some (54,true),some (54,true),some (54,true),none,none,some (59,true),some (59,true),some (59,true),none,none,some (64,true),some (64,true),some (64,true),some (64,true),some (64,true),none,none,some (71,true),some (71,true),some (71,true),none,none] fun _ _ g r=>?_;try simp [F12]
       and_intros
       try any_goals first | omega | (simp [maxLen,F12] <;> omega)
       obtain ⟨v21,h16,hF⟩:=AaF hF;refine AC (Afb k _ _ h16) (.cons (.same (by simp [F12])) .nil) ?_;by_cases h17 : v21=true
       ·replace hF:=AaQ h17 hF;have h17_:=h17;try simp at h17_
        by_cases h18 : v5≠v0
        ·replace hF:=AaQ h18 hF;have h18_:=Abm h18;have h18__:=Abo h18;by_cases h19 : 1≤v6
         ·replace hF:=AaQ h19 hF;have h19_:=h19;try simp at h19_
          by_cases h20 : v6≤3
          ·replace hF:=AaQ h20 hF;have h20_:=h20;try simp at h20_
           by_cases h21 : v3≤v7
           ·replace hF:=AaQ h21 hF;have h21_:=h21;try simp at h21_
            have F13:=A9 F12 h17 h17_ h18 h18_ h18__ h19 h19_ (A4 h20 h20_ h21 h21_);refine TL F13 g r [1,41,42] [(2,AV.bool (decide (v7≤2147483648)))] [0] [] 1 ?_;simp only [Option.some.injEq] at hF;subst hF;refine AW.ret (hQ _ _ _ ?_ (AaC ?_)).1
            ·simp [Try.f96,F13]
            ·simp [F13]
           ·replace hF:=AaR h21 hF;have h21_:=h21;try simp at h21_
            have F14:=A9 F12 h17 h17_ h18 h18_ h18__ h19 h19_ (A4 h20 h20_ h21 h21_);refine TL F14 g r [1,41,42] [(2,AV.bool false)] [0] [] 1 ?_;simp only [Option.some.injEq] at hF;subst hF;refine AW.ret (hQ _ _ _ ?_ (AaC ?_)).1
            ·simp [Try.f96,F14]
            ·simp [F14]
          ·replace hF:=AaR h20 hF;have h20_:=h20;try simp at h20_
           have F15:=A9 F12 h17 h17_ h18 h18_ h18__ h19 h19_ (A2 h20 h20_);refine TL F15 g r [1,41,42] [(2,AV.bool false)] [0] [] 1 ?_;simp only [Option.some.injEq] at hF;subst hF;refine AW.ret (hQ _ _ _ ?_ (AaC ?_)).1
           ·simp [Try.f96,F15]
           ·simp [F15]
         ·replace hF:=AaR h19 hF;have h19_:=h19;try simp at h19_
          have F16:=A8 F12 h17 h17_ h18 h18_ h18__ h19 h19_;refine TL F16 g r [1,41,42] [(2,AV.bool false)] [0] [] 1 ?_;simp only [Option.some.injEq] at hF;subst hF;refine AW.ret (hQ _ _ _ ?_ (AaC ?_)).1
          ·simp [Try.f96,F16]
          ·simp [F16]
        ·replace hF:=AaR h18 hF;have h18q : v5=v0:=Classical.not_not.1 h18;have h18_:=Abr h18q;have h18__:=Abp h18q;have F17:=A5 F12 h17 h17_ h18_ h18__;refine TL F17 g r [1,41,42] [(2,AV.bool false)] [0] [] 1 ?_;simp only [Option.some.injEq] at hF;subst hF;refine AW.ret (hQ _ _ _ ?_ (AaC ?_)).1
         ·simp [Try.f96,F17]
         ·simp [F17]
       ·replace hF:=AaR h17 hF;have h17_:=h17;try simp at h17_
        have F18:=A3 F12 h17 h17_;refine TL F18 g r [1,41,42] [(2,AV.bool false)] [0] [] 1 ?_;simp only [Option.some.injEq] at hF;subst hF;refine AW.ret (hQ _ _ _ ?_ (AaC ?_)).1
        ·simp [Try.f96,F18]
        ·simp [F18]
      ·replace hF:=AaR h15 hF;have h15_:=Abm h15;have h15__:=Abo h15;have F19:=A4 F11 h15 h15_ h15__;refine CF (by simp [F19] <;> omega) ?_;refine SW F19 [] [none,none] [42] [(76,AV.bool (v4==2))] [] [] 1 ?_;by_cases h22 : v4=2
       ·replace hF:=AaQ h22 hF;have h22q : v4=2:=h22;have h22_:=Abr h22q;have h22__:=Abp h22q;have F20:=A4 F19 h22_ h22__ h22q;refine CT (by simp [F20] <;> omega) ?_;refine SR [] [none,none,none,none,some (81,true),some (81,true),some (81,true),none,none,some (86,true),some (86,true),some (86,true),none,none] fun _ _ g r=>?_;try simp [F20]
        and_intros
        try any_goals first | omega | (simp [maxLen,F20] <;> omega)
        obtain ⟨v22,h23,hF⟩:=AaF hF;refine AC (AdK k _ _ _ h23) (.cons (.same (by simp [F20])) (.cons (.same (by simp [F20])) .nil)) ?_;by_cases h24 : v22=true
        ·replace hF:=AaQ h24 hF;have h24_:=h24;try simp at h24_
         by_cases h25 : v6=0
         ·replace hF:=AaQ h25 hF;have h25q : v6=0:=h25;have h25_:=Abr h25q;have h25__:=Abp h25q;have F21:=A6 F20 h24 h24_ h25_ h25__ h25q;refine TL F21 g r [1,41,76] [(2,AV.bool (v7==0))] [0] [] 1 ?_;simp only [Option.some.injEq] at hF;subst hF;refine AW.ret (hQ _ _ _ ?_ (AaC ?_)).1
          ·simp [Try.f96,F21]
          ·simp [F21]
         ·replace hF:=AaR h25 hF;have h25_:=Abm h25;have h25__:=Abo h25;have F22:=A6 F20 h24 h24_ h25 h25_ h25__;refine TL F22 g r [1,41,76] [(2,AV.bool false)] [0] [] 1 ?_;simp only [Option.some.injEq] at hF;subst hF;refine AW.ret (hQ _ _ _ ?_ (AaC ?_)).1
          ·simp [Try.f96,F22]
          ·simp [F22]
        ·replace hF:=AaR h24 hF;have h24_:=h24;try simp at h24_
         have F23:=A3 F20 h24 h24_;refine TL F23 g r [1,41,76] [(2,AV.bool false)] [0] [] 1 ?_;simp only [Option.some.injEq] at hF;subst hF;refine AW.ret (hQ _ _ _ ?_ (AaC ?_)).1
         ·simp [Try.f96,F23]
         ·simp [F23]
       ·replace hF:=AaR h22 hF;have h22_:=Abm h22;have h22__:=Abo h22;have F24:=A4 F19 h22 h22_ h22__;refine CF (by simp [F24] <;> omega) ?_;refine SW F24 [] [none,none] [41,76] [(91,AV.bool (v4==3))] [] [] 1 ?_;by_cases h26 : v4=3
        ·replace hF:=AaQ h26 hF;have h26q : v4=3:=h26;have h26_:=Abr h26q;have h26__:=Abp h26q;refine CT (by simp [F24,h26_,h26__,h26q] <;> omega) ?_;refine SR [] [none,none,none,none,some (96,true),some (96,true),some (96,true),none,none,some (101,true),some (101,true),some (101,true),none,none] fun _ _ g r=>?_;by_cases h27 : v5=0
         ·replace hF:=AaQ h27 hF;have h27q : v5=0:=h27;have h27_:=Abr h27q;have h27__:=Abp h27q;by_cases h28 : v6=0
          ·replace hF:=AaQ h28 hF;have h28q : v6=0:=h28;have h28_:=Abr h28q;have h28__:=Abp h28q;have F25:=A9 F24 h26_ h26__ h26q h27_ h27__ h27q h28_ (A2 h28__ h28q);refine TL F25 g r [1,91] [(2,AV.bool (v7==0))] [0] [] 1 ?_;simp only [Option.some.injEq] at hF;subst hF;refine AW.ret (hQ _ _ _ ?_ (AaC ?_)).1
           ·simp [Try.f96,F25]
           ·simp [F25]
          ·replace hF:=AaR h28 hF;have h28_:=Abm h28;have h28__:=Abo h28;have F26:=A9 F24 h26_ h26__ h26q h27_ h27__ h27q h28 (A2 h28_ h28__);refine TL F26 g r [1,91] [(2,AV.bool false)] [0] [] 1 ?_;simp only [Option.some.injEq] at hF;subst hF;refine AW.ret (hQ _ _ _ ?_ (AaC ?_)).1
           ·simp [Try.f96,F26]
           ·simp [F26]
         ·replace hF:=AaR h27 hF;have h27_:=Abm h27;have h27__:=Abo h27;have F27:=A7 F24 h26_ h26__ h26q h27 h27_ h27__;refine TL F27 g r [1,91] [(2,AV.bool false)] [0] [] 1 ?_;simp only [Option.some.injEq] at hF;subst hF;refine AW.ret (hQ _ _ _ ?_ (AaC ?_)).1
          ·simp [Try.f96,F27]
          ·simp [F27]
        ·replace hF:=AaR h26 hF;have h26_:=Abm h26;have h26__:=Abo h26;have F28:=A4 F24 h26 h26_ h26__;refine CF (by simp [F28] <;> omega) ?_;refine AW.skip ?_;refine hK202 _ _ _ ?_;refine SW F28 [] [none] [1,91] [(2,AV.bool true)] [0] [] 1 ?_;simp only [Option.some.injEq] at hF;subst hF;refine AW.ret (hQ _ _ _ ?_ (AaC ?_)).1
         ·simp [Try.f96,F28]
         ·simp [F28]
theorem AeH (k : Nat) (v0 : (List AaA)) (v1 : Bool) (hF : Aad k v0=some v1) :
 AbK Try.prog 97 [Q0 v0] [] (AV.bool v1) []:=by
 unfold Aad at hF;refine EN Try.func97 ?_;intro c0 w0 Q h0 hQ
 refine WK [(0,Q0 v0)] [] 0 (by simp) (by simp) ?_;refine SW trivial [] [none] [] [] [] [] 0 ?_;refine AW.seq fun K191 hK191=>?_;refine SW trivial [] [none] [] [(3,Iz 0)] [] [] 0 ?_;refine AW.block ?_;refine AW.loopF (α:=Int) (fun n v2=>Aad.L1 k v0 n v2=some v1) (fun v2=>[(0,Q0 v0),(3,Iz v2)]) (fun v2=>[]) 0 k (0) hF (by simp) (by simp) (by simp) ?_;rintro (_|n1) v2 hF K240 hK240
 ·try dsimp only at hF
  rw [Aad.L1] at hF; cases hF
 try dsimp only at hF
 rw [Aad.L1] at hF;refine AW.seq fun K242 hK242=>?_;refine SW trivial [] [none,none,none,none] [] [(8,AV.bool (decide (v2<(v0.length : Int))))] [] [] 0 ?_;by_cases h1 : v2<(v0.length : Int)
 ·replace hF:=AaQ h1 hF;have h1_:=h1;try simp at h1_
  refine CT (by simp [h1,h1_] <;> omega) ?_;refine AW.skip ?_;refine hK242 _ _ _ ?_;refine AW.seq fun K248 hK248=>?_;refine AW.block ?_;refine SR [] [none,none,none,none,none,none] fun _ _ g r=>?_;obtain ⟨v3,h2,h3,h4,hF⟩:=Aah hF;have h4_:=Aa7 h4;try simp at h4_
  have h3_:=h3;try simp at h3_
  have F1:=A7 h1 h1_ h2 h3 h4 h4_ h3_;refine TL F1 g r [] [(4,AV.ptr 0 0)] [] [(0,.cells [Iz v3.Author,Iz v3.Height,AV.str v3.Digest])] 1 ?_;refine AW.midF (α:=Bool) (fun v4=>Aad.J2 k v2 (fun v2_=>Aad.L1 k v0 n1 v2_) v4=some v1) (fun v4=>[(0,Q0 v0),(3,Iz v2),(49,AV.bool v4)]) (fun v4=>[]) 0 (fun K253 hK253=>?_) ?_
  ·refine RG [] [none,none,none,none,none,some (19,false),some (19,false),some (19,false),some (22,true),some (22,true),some (22,true),some (22,true),some (22,true),some (22,true),some (22,true),some (22,true),some (22,true),some (19,false),none,none,some (34,false),some (34,false),some (34,false),none,none,some (39,false),some (39,false),some (39,false),none,none,some (44,false),some (44,false),some (44,false),some (44,false),none] fun _ _ g r=>?_;try simp [F1]
   and_intros
   try any_goals first | omega | (simp [maxLen,F1] <;> omega)
   obtain ⟨v5,h6,hF⟩:=AaF hF;refine AC (Afb k _ _ h6) (.cons (.same (by simp [F1])) .nil) ?_;by_cases h7 : (!v5)=true
   ·replace hF:=AaQ h7 hF;have h7_:=h7;try simp at h7_
    have F2:=A3 F1 h7 h7_;try simp [F2]
    and_intros <;> first | exact GK g | apply r | omega | (simp [maxLen,F2] <;> omega)
    refine hK253 _ _ _ ?_;refine RN h0 [] [(0,Q0 v0),(3,Iz v2),(49,AV.bool true)] [] 0 (by simp [F2]) (by simp [F2]) ?_;exact JN (true) hF (by simp [F2]) (by simp [F2])
   ·replace hF:=AaR h7 hF;have h7_:=h7;try simp at h7_
    by_cases h8 : 0<v2
    ·replace hF:=AaQ h8 hF;have h8_:=h8;try simp at h8_
     obtain ⟨v6,h9,h10,h11,hF⟩:=Aah hF;have h11_:=Aa7 h11;try simp at h11_
     have h10_:=h10;try simp at h10_
     by_cases h12 : v3.Author≤v6.Author
     ·replace hF:=AaQ h12 hF;have h12_:=h12;try simp at h12_
      have F3:=A9 F1 h7 h7_ h8 h8_ h9 h10 h11 (A4 h11_ h10_ h12 h12_);try simp [F3]
      and_intros <;> first | exact GK g | apply r | omega | (simp [maxLen,F3] <;> omega)
      refine hK253 _ _ _ ?_;refine RN h0 [] [(0,Q0 v0),(3,Iz v2),(49,AV.bool true)] [] 0 (by simp [F3]) (by simp [F3]) ?_;exact JN (true) hF (by simp [F3]) (by simp [F3])
     ·replace hF:=AaR h12 hF;have h12_:=h12;try simp at h12_
      by_cases h13 : v3.Height<1
      ·replace hF:=AaQ h13 hF;have h13_:=h13;try simp at h13_
       have F4:=A9 F1 h7 h7_ h8 h8_ h9 h10 h11 (A6 h11_ h10_ h12 h12_ h13 h13_);try simp [F4]
       and_intros <;> first | exact GK g | apply r | omega | (simp [maxLen,F4] <;> omega)
       refine hK253 _ _ _ ?_;refine RN h0 [] [(0,Q0 v0),(3,Iz v2),(49,AV.bool true)] [] 0 (by simp [F4]) (by simp [F4]) ?_;exact JN (true) hF (by simp [F4]) (by simp [F4])
      ·replace hF:=AaR h13 hF;have h13_:=h13;try simp at h13_
       by_cases h14 : 200<v3.Height
       ·replace hF:=AaQ h14 hF;have h14_:=h14;try simp at h14_
        have F5:=A9 F1 h7 h7_ h8 h8_ h9 h10 h11 (A8 h11_ h10_ h12 h12_ h13 h13_ h14 h14_);try simp [F5]
        and_intros <;> first | exact GK g | apply r | omega | (simp [maxLen,F5] <;> omega)
        refine hK253 _ _ _ ?_;refine RN h0 [] [(0,Q0 v0),(3,Iz v2),(49,AV.bool true)] [] 0 (by simp [F5]) (by simp [F5]) ?_;exact JN (true) hF (by simp [F5]) (by simp [F5])
       ·replace hF:=AaR h14 hF;have h14_:=h14;try simp at h14_
        have F6:=A9 F1 h7 h7_ h8 h8_ h9 h10 h11 (A8 h11_ h10_ h12 h12_ h13 h13_ h14 h14_);try simp [F6]
        and_intros <;> first | exact GK g | apply r | omega | (simp [maxLen,F6] <;> omega)
        refine hK253 _ _ _ ?_;refine RN h0 [] [(0,Q0 v0),(3,Iz v2),(49,AV.bool ((v3.Digest.size : Int) !=32))] [] 0 (by simp [F6]) (by simp [F6]) ?_;exact JN (((v3.Digest.size : Int) !=32)) hF (by simp [F6]) (by simp [F6])
    ·replace hF:=AaR h8 hF;have h8_:=h8;try simp at h8_
     by_cases h15 : v3.Height<1
     ·replace hF:=AaQ h15 hF;have h15_:=h15;try simp at h15_
      have F7:=A7 F1 h7 h7_ h8 h8_ h15 h15_;try simp [F7]
      and_intros <;> first | exact GK g | apply r | omega | (simp [maxLen,F7] <;> omega)
      refine hK253 _ _ _ ?_;refine RN h0 [] [(0,Q0 v0),(3,Iz v2),(49,AV.bool true)] [] 0 (by simp [F7]) (by simp [F7]) ?_;exact JN (true) hF (by simp [F7]) (by simp [F7])
     ·replace hF:=AaR h15 hF;have h15_:=h15;try simp at h15_
      by_cases h16 : 200<v3.Height
      ·replace hF:=AaQ h16 hF;have h16_:=h16;try simp at h16_
       have F8:=A9 F1 h7 h7_ h8 h8_ h15 h15_ h16 h16_;try simp [F8]
       and_intros <;> first | exact GK g | apply r | omega | (simp [maxLen,F8] <;> omega)
       refine hK253 _ _ _ ?_;refine RN h0 [] [(0,Q0 v0),(3,Iz v2),(49,AV.bool true)] [] 0 (by simp [F8]) (by simp [F8]) ?_;exact JN (true) hF (by simp [F8]) (by simp [F8])
      ·replace hF:=AaR h16 hF;have h16_:=h16;try simp at h16_
       have F9:=A9 F1 h7 h7_ h8 h8_ h15 h15_ h16 h16_;try simp [F9]
       and_intros <;> first | exact GK g | apply r | omega | (simp [maxLen,F9] <;> omega)
       refine hK253 _ _ _ ?_;refine RN h0 [] [(0,Q0 v0),(3,Iz v2),(49,AV.bool ((v3.Digest.size : Int) !=32))] [] 0 (by simp [F9]) (by simp [F9]) ?_;exact JN (((v3.Digest.size : Int) !=32)) hF (by simp [F9]) (by simp [F9])
  ·rintro v4 hF
   try dsimp only at hF
   unfold Aad.J2 at hF;by_cases h5 : v4=true
   ·replace hF:=AaQ h5 hF;have h5_:=h5;try simp at h5_
    have F10:=A3 F1 h5 h5_;refine CT (by simp [F10] <;> omega) ?_;refine SW F10 [] [none] [0,3,49] [(2,AV.bool false)] [] [] 0 ?_;simp only [Option.some.injEq] at hF;subst hF;refine AW.ret (hQ _ _ _ ?_ (AaC ?_)).1
    ·simp [Try.f97,F10]
    ·simp [F10]
   ·replace hF:=AaR h5 hF;have h5_:=h5;try simp at h5_
    have F11:=A3 F1 h5 h5_;refine CF (by simp [F11] <;> omega) ?_;refine AW.skip ?_;refine hK248 _ _ _ ?_;refine RG [] [none,none,none] fun _ _ g r=>?_;try simp [F11]
    and_intros <;> first | exact GK g | apply r | omega | (simp [maxLen,F11] <;> omega)
    refine hK240 _ _ _ ?_;exact NX (k':=n1) (IntKind.wrap .i64 (v2+1)) hF (by simp [F11]) (by simp [F11])
 ·replace hF:=AaR h1 hF;have h1_:=h1;try simp at h1_
  refine CF (by simp [h1,h1_] <;> omega) ?_;refine AW.exit ?_;try simp
  refine hK191 _ _ _ ?_;refine SW (A2 h1 h1_) [] [none] [0,3] [(2,AV.bool true)] [] [] 0 ?_;simp only [Option.some.injEq] at hF;subst hF;refine AW.ret (hQ _ _ _ ?_ (AaC ?_)).1
  ·simp [Try.f97,h1,h1_]
  ·simp [h1,h1_]
abbrev Aeh (v0 : Int) (v1 : Int) (v2 : ByteArray) (v3 : Int) (v4 : Int) (v5 : Int) (v6 : Int) (v7 : Int) (v8 : (List Int)) (v9 : (List AaA)) (v10 : ByteArray) (v11 : Int) (v12 : ByteArray) : Aaq := .cells [Iz v0,Iz v1,AV.str v2,Iz v3,Iz v4,Iz v5,Iz v6,Iz v7,Lz v8,Q0 v9,AV.str v10,Iz v11,AV.str v12]
theorem Aed (k : Nat) (v0 : Int) (v1 : Int) (v2 : ByteArray) (v3 : Int) (v4 : Int) (v5 : Int) (v6 : Int) (v7 : Int) (v8 : (List Int)) (v9 : (List AaA)) (v10 : ByteArray) (v11 : Int) (v12 : ByteArray) (v13 : Int) (hF : Aan k v0 v1 v2 v3 v4 v5 v6 v7 v8 v9 v10 v11 v12=some v13) :
 AbK Try.prog 54 [AV.agg [AV.int .i64 v0,AV.int .i64 v1,AV.str v2,AV.int .i64 v3,AV.int .i64 v4,AV.int .i64 v5,AV.int .i64 v6,AV.int .i64 v7,AV.lst false false (List.map (AV.int .i64) v8),Q0 v9,AV.str v10,AV.int .i64 v11,AV.str v12]] [] (AV.int .i64 v13) []:=by
 unfold Aan at hF;refine EN Try.func54 ?_;intro c0 w0 Q h0 hQ
 refine WK [(0,AV.agg [Iz v0,Iz v1,AV.str v2,Iz v3,Iz v4,Iz v5,Iz v6,Iz v7,Lz v8,Q0 v9,AV.str v10,Iz v11,AV.str v12])] [] 0 (by simp) (by simp) ?_;refine SW trivial [] [none,none] [0] [(1,AV.ptr 0 0)] [] [(0,Aeh v0 v1 v2 v3 v4 v5 v6 v7 v8 v9 v10 v11 v12)] 1 ?_;refine AW.midF (α:=Unit) (fun _=>Aan.J1 k=some v13) (fun _=>[]) (fun _=>[]) 0 (fun K66 hK66=>?_) ?_
 ·refine AW.block ?_;obtain ⟨v14,h1,hF⟩:=AaF hF;refine CL trivial [] [none,none,none,none,none] (Afb k _ _ h1) [] [(3,AV.bool (!v14))] [] [] 1 ?_;by_cases h2 : (!v14)=true
  ·replace hF:=AaQ h2 hF;have h2_:=h2;try simp at h2_
   refine CT (by simp [h2,h2_] <;> omega) ?_;refine SW (A2 h2 h2_) [] [none] [1,3] [(2,Iz 4)] [0] [] 1 ?_;simp only [Option.some.injEq] at hF;subst hF;refine AW.ret (hQ _ _ _ ?_ (AaC ?_)).1
   ·simp [Try.f54,h2,h2_]
   ·simp [h2,h2_]
  ·replace hF:=AaR h2 hF;have h2_:=h2;try simp at h2_
   refine CF (by simp [h2,h2_] <;> omega) ?_;refine AW.midF (α:=Bool) (fun v15=>Aan.J2 k v0 v1 v2 v3 v4 v5 v6 v7 v8 v9 v10 v11 v12 v15=some v13) (fun v15=>[(1,AV.ptr 0 0),(8,AV.bool v15)]) (fun v15=>[(0,Aeh v0 v1 v2 v3 v4 v5 v6 v7 v8 v9 v10 v11 v12)]) 1 (fun K86 hK86=>?_) ?_
   ·refine RG [] [none,none,none,none,some (12,false),some (12,false),some (12,false),some (12,false),some (16,true),some (16,true),some (16,true),some (12,false),none,none,some (22,false),some (22,false),some (22,false),none,none] fun _ _ g r=>?_;by_cases h24 : v4<1
    ·replace hF:=AaQ h24 hF;have h24_:=h24;try simp at h24_
     have F1:=A4 h2 h2_ h24 h24_;try simp [F1]
     and_intros <;> first | exact GK g | apply r | omega | (simp [maxLen,F1] <;> omega)
     refine hK86 _ _ _ ?_;exact JN (true) hF (by simp [F1]) (by simp [F1])
    ·replace hF:=AaR h24 hF;have h24_:=h24;try simp at h24_
     by_cases h25 : 3<v4
     ·replace hF:=AaQ h25 hF;have h25_:=h25;try simp at h25_
      by_cases h26 : v4<10
      ·replace hF:=AaQ h26 hF;have h26_:=h26;try simp at h26_
       have F2:=A8 h2 h2_ h24 h24_ h25 h25_ h26 h26_;try simp [F2]
       and_intros <;> first | exact GK g | apply r | omega | (simp [maxLen,F2] <;> omega)
       refine hK86 _ _ _ ?_;exact JN (true) hF (by simp [F2]) (by simp [F2])
      ·replace hF:=AaR h26 hF;have h26_:=h26;try simp at h26_
       have F3:=A8 h2 h2_ h24 h24_ h25 h25_ h26 h26_;try simp [F3]
       and_intros <;> first | exact GK g | apply r | omega | (simp [maxLen,F3] <;> omega)
       refine hK86 _ _ _ ?_;exact JN ((decide (31<v4))) hF (by simp [F3]) (by simp [F3])
     ·replace hF:=AaR h25 hF;have h25_:=h25;try simp at h25_
      have F4:=A6 h2 h2_ h24 h24_ h25 h25_;try simp [F4]
      and_intros <;> first | exact GK g | apply r | omega | (simp [maxLen,F4] <;> omega)
      refine hK86 _ _ _ ?_;exact JN ((decide (31<v4))) hF (by simp [F4]) (by simp [F4])
   ·rintro v15 hF
    try dsimp only at hF
    unfold Aan.J2 at hF;by_cases h3 : v15=true
    ·replace hF:=AaQ h3 hF;have h3_:=h3;try simp at h3_
     have F5:=A4 h2 h2_ h3 h3_;refine CT (by simp [F5] <;> omega) ?_;refine SW F5 [] [none] [1,8] [(2,Iz 5)] [0] [] 1 ?_;simp only [Option.some.injEq] at hF;subst hF;refine AW.ret (hQ _ _ _ ?_ (AaC ?_)).1
     ·simp [Try.f54,F5]
     ·simp [F5]
    ·replace hF:=AaR h3 hF;have h3_:=h3;try simp at h3_
     have F6:=A4 h2 h2_ h3 h3_;refine CF (by simp [F6] <;> omega) ?_;obtain ⟨v16,h4,hF⟩:=AaF hF;refine CL F6 [] [none,none,none,none,none] (AdK k _ _ _ h4) [8] [(27,AV.bool (!v16))] [] [] 1 ?_;by_cases h5 : (!v16)=true
     ·replace hF:=AaQ h5 hF;have h5_:=h5;try simp at h5_
      have F7:=A3 F6 h5 h5_;refine CT (by simp [F7] <;> omega) ?_;refine SW F7 [] [none] [1,27] [(2,Iz 9)] [0] [] 1 ?_;simp only [Option.some.injEq] at hF;subst hF;refine AW.ret (hQ _ _ _ ?_ (AaC ?_)).1
      ·simp [Try.f54,F7]
      ·simp [F7]
     ·replace hF:=AaR h5 hF;have h5_:=h5;try simp at h5_
      have F8:=A3 F6 h5 h5_;refine CF (by simp [F8] <;> omega) ?_;obtain ⟨v17,h6,hF⟩:=AaF hF;refine CL F8 [] [none,none,none,none] (Agu k _ _ _ _ _ _ _ _ _ _ _ _ _ _ h6) [27] [(32,AV.bool (!v17))] [] [] 1 ?_;by_cases h7 : (!v17)=true
      ·replace hF:=AaQ h7 hF;have h7_:=h7;try simp at h7_
       have F9:=A3 F8 h7 h7_;refine CT (by simp [F9] <;> omega) ?_;refine SW F9 [] [none] [1,32] [(2,Iz 2)] [0] [] 1 ?_;simp only [Option.some.injEq] at hF;subst hF;refine AW.ret (hQ _ _ _ ?_ (AaC ?_)).1
       ·simp [Try.f54,F9]
       ·simp [F9]
      ·replace hF:=AaR h7 hF;have h7_:=h7;try simp at h7_
       have F10:=A3 F8 h7 h7_;refine CF (by simp [F10] <;> omega) ?_;refine SR [] [none,none,none,none,none,some (41,false),some (41,false),some (41,false),some (41,false),none,none,some (47,false),some (47,false),some (47,false),some (47,false),none,none] fun _ _ g r=>?_;by_cases h8 : 64<(v8.length : Int)
       ·replace hF:=AaQ h8 hF;have h8_:=h8;try simp at h8_
        have F11:=A3 F10 h8 h8_;refine TL F11 g r [32] [(36,AV.bool true)] [] [] 1 ?_;refine CT (by simp [F11]) ?_;refine SW F11 [] [none] [1,36] [(2,Iz 3)] [0] [] 1 ?_;simp only [Option.some.injEq] at hF;subst hF;refine AW.ret (hQ _ _ _ ?_ (AaC ?_)).1
        ·simp [Try.f54,F11]
        ·simp [F11]
       ·replace hF:=AaR h8 hF;have h8_:=h8;try simp at h8_
        by_cases h9 : 64<(v9.length : Int)
        ·replace hF:=AaQ h9 hF;have h9_:=h9;try simp at h9_
         have F12:=A5 F10 h8 h8_ h9 h9_;refine TL F12 g r [32] [(36,AV.bool true)] [] [] 1 ?_;refine CT (by simp [F12]) ?_;refine SW F12 [] [none] [1,36] [(2,Iz 3)] [0] [] 1 ?_;simp only [Option.some.injEq] at hF;subst hF;refine AW.ret (hQ _ _ _ ?_ (AaC ?_)).1
         ·simp [Try.f54,F12]
         ·simp [F12]
        ·replace hF:=AaR h9 hF;have h9_:=h9;try simp at h9_
         have F13:=A5 F10 h8 h8_ h9 h9_;refine TL F13 g r [32] [(36,AV.bool (decide (4096<(v10.size : Int))))] [] [] 1 ?_;by_cases h10 : 4096<(v10.size : Int)
         ·replace hF:=AaQ h10 hF;have h10_:=h10;try simp at h10_
          have F14:=A3 F13 h10 h10_;refine CT (by simp [F14] <;> omega) ?_;refine SW F14 [] [none] [1,36] [(2,Iz 3)] [0] [] 1 ?_;simp only [Option.some.injEq] at hF;subst hF;refine AW.ret (hQ _ _ _ ?_ (AaC ?_)).1
          ·simp [Try.f54,F14]
          ·simp [F14]
         ·replace hF:=AaR h10 hF;have h10_:=h10;try simp at h10_
          have F15:=A3 F13 h10 h10_;refine CF (by simp [F15] <;> omega) ?_;refine AW.midF (α:=Bool) (fun v18=>Aan.J3 k v4 v8 v9 v10 v18=some v13) (fun v18=>[(1,AV.ptr 0 0),(53,AV.bool v18)]) (fun v18=>[(0,Aeh v0 v1 v2 v3 v4 v5 v6 v7 v8 v9 v10 v11 v12)]) 1 (fun K85 hK85=>?_) ?_
          ·refine RG [] [none,none,none,none,some (57,true),some (57,true),some (57,true),none,none,some (62,false),some (62,false),some (62,false),some (62,false),some (66,true),some (66,true),some (66,true),some (66,true),some (62,false),none,none,some (73,false),some (73,false),some (73,false),some (73,false),none,none] fun _ _ g r=>?_;by_cases h16 : v1=0
           ·replace hF:=AaQ h16 hF;have h16q : v1=0:=h16;have h16_:=Abr h16q;have h16__:=Abp h16q;by_cases h17 : (!AbZ v2 (ByteArray.mk #[]))=true
            ·replace hF:=AaQ h17 hF;have h17_:=h17;try simp at h17_
             have F16:=A6 F15 h16_ h16__ h16q h17 h17_;try simp [F16]
             and_intros <;> first | exact GK g | apply r | omega | (simp [maxLen,F16] <;> omega)
             refine hK85 _ _ _ ?_;exact JN (true) hF (by simp [F16]) (by simp [F16])
            ·replace hF:=AaR h17 hF;have h17_:=h17;try simp at h17_
             by_cases h18 : 0<v1
             ·replace hF:=AaQ h18 hF;have h18_:=h18;try simp at h18_
              cases hF
             ·replace hF:=AaR h18 hF;have h18_:=h18;try simp at h18_
              have F17:=A8 F15 h16_ h16__ h16q h17 h17_ h18 h18_;try simp [F17]
              and_intros
              try any_goals first | omega | (simp [maxLen,F17] <;> omega)
              obtain ⟨v19,h19,hF⟩:=AaF hF;refine AC (AeH k _ _ h19) (.cons (.same (by simp [F17])) .nil) ?_;try simp [F17]
              and_intros <;> first | exact GK g | apply r | omega | (simp [maxLen,F17] <;> omega)
              refine hK85 _ _ _ ?_;exact JN ((!v19)) hF (by simp [F17]) (by simp [F17])
           ·replace hF:=AaR h16 hF;have h16_:=Abm h16;have h16__:=Abo h16;by_cases h20 : 0<v1
            ·replace hF:=AaQ h20 hF;have h20_:=h20;try simp at h20_
             by_cases h21 : (v2.size : Int)≠32
             ·replace hF:=AaQ h21 hF;have h21_:=Abm h21;have h21__:=Abo h21;have F18:=A9 F15 h16 h16_ h16__ h20 h20_ h21 h21_ h21__;try simp [F18]
              and_intros <;> first | exact GK g | apply r | omega | (simp [maxLen,F18] <;> omega)
              refine hK85 _ _ _ ?_;exact JN (true) hF (by simp [F18]) (by simp [F18])
             ·replace hF:=AaR h21 hF;have h21q : (v2.size : Int)=32:=Classical.not_not.1 h21;have h21_:=Abr h21q;have h21__:=Abp h21q;have F19:=A9 F15 h16 h16_ h16__ h20 h20_ h21_ h21__ h21q;try simp [F19]
              and_intros
              try any_goals first | omega | (simp [maxLen,F19] <;> omega)
              obtain ⟨v20,h22,hF⟩:=AaF hF;refine AC (AeH k _ _ h22) (.cons (.same (by simp [F19])) .nil) ?_;try simp [F19]
              and_intros <;> first | exact GK g | apply r | omega | (simp [maxLen,F19] <;> omega)
              refine hK85 _ _ _ ?_;exact JN ((!v20)) hF (by simp [F19]) (by simp [F19])
            ·replace hF:=AaR h20 hF;have h20_:=h20;try simp at h20_
             have F20:=A6 F15 h16 h16_ h16__ h20 h20_;try simp [F20]
             and_intros
             try any_goals first | omega | (simp [maxLen,F20] <;> omega)
             obtain ⟨v21,h23,hF⟩:=AaF hF;refine AC (AeH k _ _ h23) (.cons (.same (by simp [F20])) .nil) ?_;try simp [F20]
             and_intros <;> first | exact GK g | apply r | omega | (simp [maxLen,F20] <;> omega)
             refine hK85 _ _ _ ?_;exact JN ((!v21)) hF (by simp [F20]) (by simp [F20])
          ·rintro v18 hF
           try dsimp only at hF
           unfold Aan.J3 at hF;by_cases h11 : v18=true
           ·replace hF:=AaQ h11 hF;have h11_:=h11;try simp at h11_
            have F21:=A3 F15 h11 h11_;refine CT (by simp [F21] <;> omega) ?_;refine SW F21 [] [none] [1,53] [(2,Iz 1)] [0] [] 1 ?_;simp only [Option.some.injEq] at hF;subst hF;refine AW.ret (hQ _ _ _ ?_ (AaC ?_)).1
            ·simp [Try.f54,F21]
            ·simp [F21]
           ·replace hF:=AaR h11 hF;have h11_:=h11;try simp at h11_
            have F22:=A3 F15 h11 h11_;refine CF (by simp [F22] <;> omega) ?_;refine SR [] [none,none,none,none,some (83,true),some (83,true),some (83,true),some (83,true),some (83,true),some (88,false),some (88,false),some (88,false),some (88,false),some (83,true),some (83,true),some (94,false),some (94,false),some (94,false),some (83,true),none,none] fun _ _ g r=>?_;by_cases h12 : v4≤3
            ·replace hF:=AaQ h12 hF;have h12_:=h12;try simp at h12_
             by_cases h13 : 0<(v8.length : Int)
             ·replace hF:=AaQ h13 hF;have h13_:=h13;try simp at h13_
              have F23:=A5 F22 h12 h12_ h13 h13_;refine TL F23 g r [1,53] [(79,AV.bool true)] [0] [] 1 ?_;refine CT (by simp [F23]) ?_;refine SW F23 [] [none] [79] [(2,Iz 1)] [] [] 1 ?_;simp only [Option.some.injEq] at hF;subst hF;refine AW.ret (hQ _ _ _ ?_ (AaC ?_)).1
              ·simp [Try.f54,F23]
              ·simp [F23]
             ·replace hF:=AaR h13 hF;have h13_:=h13;try simp at h13_
              by_cases h14 : 0<(v9.length : Int)
              ·replace hF:=AaQ h14 hF;have h14_:=h14;try simp at h14_
               have F24:=A7 F22 h12 h12_ h13 h13_ h14 h14_;refine TL F24 g r [1,53] [(79,AV.bool true)] [0] [] 1 ?_;refine CT (by simp [F24]) ?_;refine SW F24 [] [none] [79] [(2,Iz 1)] [] [] 1 ?_;simp only [Option.some.injEq] at hF;subst hF;refine AW.ret (hQ _ _ _ ?_ (AaC ?_)).1
               ·simp [Try.f54,F24]
               ·simp [F24]
              ·replace hF:=AaR h14 hF;have h14_:=h14;try simp at h14_
               have F25:=A7 F22 h12 h12_ h13 h13_ h14 h14_;refine TL F25 g r [1,53] [(79,AV.bool (!AbZ v10 (ByteArray.mk #[])))] [0] [] 1 ?_;by_cases h15 : (!AbZ v10 (ByteArray.mk #[]))=true
               ·replace hF:=AaQ h15 hF;have h15_:=h15;try simp at h15_
                have F26:=A3 F25 h15 h15_;refine CT (by simp [F26] <;> omega) ?_;refine SW F26 [] [none] [79] [(2,Iz 1)] [] [] 1 ?_;simp only [Option.some.injEq] at hF;subst hF;refine AW.ret (hQ _ _ _ ?_ (AaC ?_)).1
                ·simp [Try.f54,F26]
                ·simp [F26]
               ·replace hF:=AaR h15 hF;have h15_:=h15;try simp at h15_
                have F27:=A3 F25 h15 h15_;refine CF (by simp [F27] <;> omega) ?_;refine AW.skip ?_;refine hK66 _ _ _ ?_;refine RN h0 [] [] [] 0 (by simp [F27]) (by simp [F27]) ?_;exact JN (()) hF (by simp [F27]) (by simp [F27])
            ·replace hF:=AaR h12 hF;have h12_:=h12;try simp at h12_
             have F28:=A3 F22 h12 h12_;refine TL F28 g r [1,53] [(79,AV.bool false)] [0] [] 1 ?_;refine CF (by simp [F28]) ?_;refine AW.skip ?_;refine hK66 _ _ _ ?_;refine RN h0 [] [] [] 0 (by simp [F28]) (by simp [F28]) ?_;exact JN (()) hF (by simp [F28]) (by simp [F28])
 ·rintro ⟨⟩ hF
  try dsimp only at hF
  unfold Aan.J1 at hF;refine SW trivial [] [none] [] [(2,Iz 0)] [] [] 0 ?_;simp only [Option.some.injEq] at hF;subst hF;refine AW.ret (hQ _ _ _ ?_ (AaC ?_)).1
  ·simp [Try.f54]
  ·simp
end Go.TF
