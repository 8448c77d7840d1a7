import Derived.RangeFuncBox
import Derived.RangeFuncLeaves
import Derived.Shelf.Abstract
import Derived.WalkKit
import Derived.OwnWalkIn
import Derived.TacticsInMore
import Derived.LoopNIn
import Derived.LoopIn
import Derived.Maps.AppendAt
import Derived.Test.YthiodjlppahmkaaGreatProg
import Derived.KernelRfl
import Derived.Shelf.SlIterI.Sorted
import Derived.Shelf.SortM.Plain
import Derived.Shelf.SortM.SortNone
import Derived.Test.YthiodjlppahmkaaGreatExtLay22
import Derived.Test.YthiodjlppahmkaaGreatExtLay26
namespace Go.Proofs
open Go.RowKit Go.Shelf

attribute [local go_sem] Oper.semAt_some

def Srt.upto {α : Type} (f : Nat→α) (k : Nat) : List α:=(List.range k).map f
theorem Srt.upto_succ {α : Type} (f : Nat→α) (k : Nat) : Srt.upto f (k+1)=Srt.upto f k++[f k]:=by simp [Srt.upto,List.range_succ]
theorem Srt.upto_length {α : Type} (f : Nat→α) (k : Nat) : (Srt.upto f k).length=k:=by simp [Srt.upto]
theorem Srt.upto_all (zs : List Int) : Srt.upto (fun j=>zs[j]?.getD 0) zs.length=zs:=by
  apply List.ext_getElem
  · simp [Srt.upto]
  · intro i h1 h2
    simp [Srt.upto,h2]

set_option maxRecDepth 100000 in
set_option maxHeartbeats 2000000 in
theorem Srt.values1_in (F : Fence) (n : Nat) (h7 : F.fn 164) (hro : F.round=none) (hn : 1≤n) (l Bs n₀ b off len cap : Nat) (zs : List Int) (hreach : len*8≤140737488351232) (hb : b<n₀) (J Jx : List Int→World→Prop)
    (hY : ∀ pre x W,J pre W→pre.length<len→YieldAt F (n-1) Tryz.prog l #[.int .i64 x] W fun e W' =>
      (e = .returned (.bool true)∧J (pre++[x]) W'∧Below n₀ W W')∨(e = .returned (.bool false)∧Jx (pre++[x]) W'))
    (W : World) (hBs : W.cell? ⟨Bs,0,none⟩=some (.slice (some ⟨b,off,none⟩) len cap)) (hc : ∀ j,j<len→W.cell? ⟨b,off+j,none⟩=some (.int .i64 (zs[j]?.getD 0))) (h0 : J [] W) :
    CallsIn F n Tryz.prog 164 #[.func (.yield l) #[] #[],.pointer (some ⟨Bs,0,none⟩)] W fun e W'=>(∃ v,e = .returned v) ∧
      ((∃ ys,ys=Srt.upto (fun j=>zs[j]?.getD 0) len∧J ys W')∨(∃ pre,(∃ k,k≤len∧pre=Srt.upto (fun j=>zs[j]?.getD 0) k)∧Jx pre W')):=by
  refine callsIn_of_wp Tryz.func164 rfl h7 ?_ hro
  simp only [Tryz.ntmps164,List.size_toArray,List.length_cons,List.length_nil,Nat.reduceAdd,Nat.reduceSub,Array.replicate_succ,Array.replicate_zero,List.push_toArray,List.append_toArray,List.nil_append,List.cons_append]
  gi_wp2
  gi_loopw [7] (fun i wr=>∃ k : Nat,k≤len∧i = .int .i64 k∧J (Srt.upto (fun j=>zs[j]?.getD 0) k) wr∧Below n₀ W wr)
    (fun i _=>len-(intOf i).toNat)
  case atStart=>exact ⟨0,Nat.zero_le _,rfl,h0,Below.refl _ _⟩
  case round =>
    obtain ⟨k,hk,rfl,hJs,hnx⟩:=hrel
    have hcx : k<len→wr.cell? ⟨b,off+k,none⟩=some (.int .i64 (zs[k]?.getD 0)):=fun h=>(hnx.cell (p:=⟨b,off+k,none⟩) hb).trans (hc k h)
    by_cases hlt : k<len
    · obtain ⟨fn,tmps,assign,body,hy,hR⟩:=hY _ (zs[k]?.getD 0) wr hJs (by rw [Srt.upto_length]; exact hlt)
      have hcx':=hcx hlt
      gi_wp2
      refine hR.mono ?_
      rintro e W3 (⟨rfl,hJ3,hk3⟩ | ⟨rfl,hJx3⟩)
      · -- THE ROUND GOES ON
        gi_wp2
        go_roundw
        case rel=>exact ⟨k+1,by omega,by simp,by rw [Srt.upto_succ]; exact hJ3,hnx.trans hk3⟩
        case measure=>simp [intOf]; omega
      · gi_wp2
        refine bodyPost_ret (results_none rfl _ _ _) rfl ?_
        exact ⟨⟨_,rfl⟩,.inr ⟨_,⟨k+1,by omega,(Srt.upto_succ _ _).symm⟩,hJx3⟩⟩
    · obtain rfl : k=len:=by omega
      gi_wp2
      go_end0
      exact ⟨⟨_,rfl⟩,.inl ⟨_,rfl,hJs⟩⟩

theorem Srt.upto_take (zs : List Int) {k : Nat} (hk : k≤zs.length) : Srt.upto (fun j=>zs[j]?.getD 0) k=zs.take k:=by
  apply List.ext_getElem
  · simp [Srt.upto,hk]
  · intro i h1 h2
    have : i<zs.length:=by simp [Srt.upto] at h1; omega
    simp [Srt.upto,this]

def Srt.Ints (n₀ : Nat) (W : World) (sv : Value) (zs : List Int) : Prop :=
  ((∃ p cap,sv = .slice p 0 cap)∧zs = [])∨∃ b off cap,sv = .slice (some ⟨b,off,none⟩) zs.length cap∧b<n₀∧∀ j,j<zs.length→W.cell? ⟨b,off+j,none⟩=some (.int .i64 (zs[j]?.getD 0))
theorem Srt.Ints.below {n₀ : Nat} {A B : World} (h : Below n₀ A B) {sv : Value} {zs : List Int} : Srt.Ints n₀ A sv zs→Srt.Ints n₀ B sv zs
  | .inl e => .inl e
  | .inr ⟨b,off,cap,e,hb,hc⟩ => .inr ⟨b,off,cap,e,hb,fun j hj=>(h.cell (p:=⟨b,off+j,none⟩) hb).trans (hc j hj)⟩

set_option maxRecDepth 100000 in
set_option maxHeartbeats 1000000 in
theorem Srt.values1_nil_in (F : Fence) (n : Nat) (h7 : F.fn 164) (hro : F.round=none) (l Bs : Nat) (J : List Int→World→Prop) (W : World) (p : Option Addr) (cap : Nat) (hBs : W.cell? ⟨Bs,0,none⟩=some (.slice p 0 cap)) (h0 : J [] W) :
    CallsIn F n Tryz.prog 164 #[.func (.yield l) #[] #[],.pointer (some ⟨Bs,0,none⟩)] W fun e W'=>(∃ v,e = .returned v)∧J [] W':=by
  refine callsIn_of_wp Tryz.func164 rfl h7 ?_ hro
  simp only [Tryz.ntmps164,List.size_toArray,List.length_cons,List.length_nil,Nat.reduceAdd,Nat.reduceSub,Array.replicate_succ,Array.replicate_zero,List.push_toArray,List.append_toArray,List.nil_append,List.cons_append]
  gi_wp2
  gi_loopw [7] (fun i wr=>i = .int .i64 0∧J [] wr) (fun _ _=>0)
  case atStart=>exact ⟨rfl,h0⟩
  case round =>
    obtain ⟨rfl,hJs⟩:=hrel
    gi_wp2
    go_end0
    exact ⟨⟨_,rfl⟩,hJs⟩

set_option maxHeartbeats 1000000 in
theorem Srt.values_in (F : Fence) (n : Nat) (h5 : F.fn 120) (hro : F.round=none) (a : Option Addr) (len cap : Nat) (w : World) :
    CallsIn F n Tryz.prog 120 #[.slice a len cap] w fun e w'=>e = .returned (.func (.func 164) #[] #[.pointer (some ⟨w.heap.size,0,none⟩)])∧w'=w.alloc (.cells #[.slice a len cap] 22):=by
  refine callsIn_of_wp Tryz.func120 rfl h5 ?_ hro
  simp only [Tryz.ntmps120,List.size_toArray,List.length_cons,List.length_nil,Nat.reduceAdd,Nat.reduceSub,Array.replicate_succ,Array.replicate_zero,List.push_toArray,List.append_toArray,List.nil_append,List.cons_append]
  gi_wp2
  go_ret
  exact ⟨rfl,rfl⟩

theorem Srt.values_stops (F : Fence) (n : Nat) (h7 : F.fn 164) (hro : F.round=none) (hn : 1≤n) (Bs n₀ : Nat) (sv : Value) (zs : List Int) (hreach : zs.length*8≤140737488351232) (w : World) (hBs : Bs<w.heap.size) (hn₀ : n₀≤w.heap.size)
    (hc : w.cell? ⟨Bs,0,none⟩=some sv) (hI : Srt.Ints n₀ w sv zs) :
    SeqStopsK F n Tryz.prog 164 #[.pointer (some ⟨Bs,0,none⟩)] (fun x : Int => #[Value.int .i64 x]) (Below n₀) (fun ys=>ys=zs) (fun pre=>pre <+: zs) zs.length w:=fun l J Jx W hW _ _ hY h0=>by
  have hc':=(hW.cell (p:=⟨Bs,0,none⟩) hBs).trans hc
  rcases hI.below (hW.mono hn₀) with ⟨⟨p,cap,rfl⟩,rfl⟩ | ⟨b,off,cap,rfl,hb,hcs⟩
  · exact (Srt.values1_nil_in F n h7 hro l Bs J W _ _ hc' h0).mono fun e W' ⟨he,hj⟩=>⟨he,.inl ⟨_,rfl,hj⟩⟩
  · refine (Srt.values1_in F n h7 hro hn l Bs n₀ b off zs.length cap zs hreach hb J Jx hY W hc' hcs h0).mono ?_
    rintro e W' ⟨he,⟨ys,rfl,hj⟩ | ⟨pre,⟨k,hk,rfl⟩,hj⟩⟩
    · exact ⟨he,.inl ⟨_,Srt.upto_all zs,hj⟩⟩
    · exact ⟨he,.inr ⟨_,by rw [Srt.upto_take zs hk]; exact List.take_prefix _ _,hj⟩⟩

end Go.Proofs
namespace Go.Proofs
open Go.RowKit Go.Shelf

attribute [local go_sem] Oper.semAt_some

theorem Srt.info3 : (Tryz.prog.info? 3).map (fun i=>(i.zero,i.size,i.bytes))=some (some (.int .i64 0),1,8):=by kernel_rfl

set_option maxRecDepth 100000 in
set_option maxHeartbeats 2000000 in
theorem Srt.append_in (F : Fence) (n : Nat) (h199 : F.fn 199) (h164 : F.fn 164) (hro : F.round=none) (hn : 2≤n) (Bs : Nat) (sv : Value) (zs : List Int) (hlen : zs.length≤maxLen) (hbytes : zs.length*8≤140737488351232) (w : World) (hBs : Bs<w.heap.size)
    (hc : w.cell? ⟨Bs,0,none⟩=some sv) (hI : Srt.Ints w.heap.size w sv zs) :
    CallsIn F n Tryz.prog 199 #[.slice none 0 0,.func (.func 164) #[] #[.pointer (some ⟨Bs,0,none⟩)]] w fun e W'=>∃ v,e = .returned v∧W'.ownsRow w.heap.size 3 1 v zs.length (zs.map (Value.int .i64))∧(v = .slice none 0 0↔zs = [])∧Below w.heap.size w W':=by
  have h1 : 1≤n:=by omega
  obtain ⟨i0,hi,hz0,hz1,hz2⟩:=info_parts Srt.info3
  refine callsIn_of_wp_marks Tryz.func199 rfl h199 ?_ hro
  simp only [Tryz.ntmps199,List.size_toArray,List.length_cons,List.length_nil,Nat.reduceAdd,Nat.reduceSub,Array.replicate_succ,Array.replicate_zero,List.push_toArray,List.append_toArray,List.nil_append,List.cons_append]
  gi_wp2
  have bO:=Boxed.new w 22 (.slice none 0 0)
  have hB0 : Below w.heap.size w (w.alloc (.cells #[.slice none 0 0] 22)):=(Below.refl _ w).alloc (Nat.le_refl _) _
  refine wpIn_rangeFunc_ownG hro h1 (gf:=164) (lb := #[.pointer (some ⟨Bs,0,none⟩)]) rfl h164 (enters_of Tryz.func164 (by kernel_rfl) rfl)
    (Srt.values_stops F (n-1) h164 hro (by omega) Bs w.heap.size sv zs hbytes _ (by simp; omega) (by simp) ((hB0.cell (p:=⟨Bs,0,none⟩) hBs).trans hc) (hI.below hB0)) belowK_t (belowK_b (by simp)) (Below.refl _ _) (fun _=>rfl)
    (fun pre W=>(∃ v,Boxed W w.heap.size 22 v∧W.ownsRow w.heap.size 3 1 v pre.length (pre.map (Value.int .i64))∧(v = .slice none 0 0↔pre = []))∧Below w.heap.size w W)
    (fun _ _ _=>False)
    (OwnFrom.and (Own.from (holdsRow_own w.heap.size w.heap.size 22 3 1 (fun pre=>pre.length) (fun pre=>pre.map (Value.int .i64)) (fun pre v=>v = .slice none 0 0↔pre = [])) _) (ownFrom_below (Nat.le_refl _) (by simp)))
    (fun _ _ _ _ _ hs _ _=>hs)
    ⟨⟨_,bO,World.ownsRow_nil _ _ _ _,by simp⟩,hB0⟩
    (fun x => { tmps := #[.slice none 0 0,.func (.func 164) #[] #[.pointer (some ⟨Bs,0,none⟩)],.pointer (some ⟨w.heap.size,0,none⟩),undef,.slice none 0 0,.int .i64 x,.func (.func 164) #[] #[.pointer (some ⟨Bs,0,none⟩)],.int .i64 x,undef,undef,undef,undef,undef],defers:=[] }) ?assign ?body ?done ?stop
  case assign =>
    intro l x W K hK
    gi_wp2
    exact hK
  case body =>
    rintro l pre x W ⟨⟨v,hv,hrow,hnil⟩,hB⟩ hlt
    have hc:=hv.cell
    gi_wp2_with (gi_at_builtin; refine wpListIn_append_own _ rfl _ _ 22 rfl w.heap.size 3 i0 (.int .i64 0) 1 8 Tryz.underlying22 hi hz0 hz1 hz2 rfl (by decide) _ _ _ rfl (hrow.alloc _) ⟨W.heap.size,0,none⟩ 1 1 [.int .i64 x] rfl rfl (cell_one_new _ _ _) (by simp [Value.oneCell']) (by omega) (by omega) (by have:=hB.size; simp; omega) ?_; intro v' w1 hown' hgrow _; obtain ⟨g',cap',rfl⟩:=ownsRow_succ hown'; obtain ⟨hv1,hv2,hr2,hk2,hb2⟩:=hv.appended (by decide) hrow hB.size (Nat.le_refl _) hown' hgrow; have hc1:=hv1.cell; have hf1:=hv1.frozen)
    exact ⟨hk2.from _,hb2,⟨_,hv2,by simpa using hr2,by simp⟩,hB.trans hb2⟩
  case done =>
    rintro D ys W hD rfl ⟨⟨v,hv,hrow,hnil⟩,hB⟩ hK
    have hc:=hv.cell
    gi_wp2
    refine ⟨by simp,.inl ⟨_,_,rfl,run_takeDeferred hK,?_⟩⟩
    exact ⟨_,results_tmp rfl _ _ _,v,rfl,ownsRow_putObj hrow _ hK rfl,hnil,hB.trans (belowK_b (w:=w) (Nat.le_refl _) W D _ _ (by simp at hD; omega) hK rfl rfl)⟩
  case stop =>
    rintro D c pre W _ _ h _
    exact h.elim

set_option maxHeartbeats 1000000 in
theorem Srt.collect_in (F : Fence) (n : Nat) (h163 : F.fn 163) (h199 : F.fn 199) (h164 : F.fn 164) (hro : F.round=none) (hn : 3≤n) (Bs : Nat) (sv : Value) (zs : List Int) (hlen : zs.length≤maxLen) (hbytes : zs.length*8≤140737488351232) (w : World) (hBs : Bs<w.heap.size)
    (hc : w.cell? ⟨Bs,0,none⟩=some sv) (hI : Srt.Ints w.heap.size w sv zs) :
    CallsIn F n Tryz.prog 163 #[.func (.func 164) #[] #[.pointer (some ⟨Bs,0,none⟩)]] w fun e W'=>∃ v,e = .returned v∧W'.ownsRow w.heap.size 3 1 v zs.length (zs.map (Value.int .i64))∧(v = .slice none 0 0↔zs = [])∧Below w.heap.size w W':=by
  have h1 : 1≤n:=by omega
  refine callsIn_of_wp Tryz.func163 rfl h163 ?_ hro
  simp only [Tryz.ntmps163,List.size_toArray,List.length_cons,List.length_nil,Nat.reduceAdd,Nat.reduceSub,Array.replicate_succ,Array.replicate_zero,List.push_toArray,List.append_toArray,List.nil_append,List.cons_append]
  gi_wp2_with (gi_at_call 199; refine (Srt.append_in F (n-1) h199 h164 hro (by omega) Bs sv zs hlen hbytes _ hBs hc hI).mono ?_; rintro e w' ⟨v,rfl,hrow,hnil,hb⟩)
  go_ret
  exact ⟨v,rfl,hrow,hnil,hb⟩

#print axioms Srt.collect_in
end Go.Proofs
namespace Go.Proofs
open Go.RowKit Go.Maps Go.Sort Go.Shelf

def Srt.SortsIn (F : Fence) (m : Nat) : Prop :=
  (∀ (blk off cap : Nat) (ss : List Int) (W : World),Holds encZ W blk off ss.toArray→blk<W.heap.size→ss.length<4611686018427387904 →
    CallsIn F m Tryz.prog 103 #[.slice (some ⟨blk,off,none⟩) ss.length cap] W fun e w'=>e = .returned (.tuple #[])∧∃ k os,w'=grow (putRow encZ (Sort.ahead W k) blk off (ss.mergeSort fun x y=>decide (x≤y)).toArray) os) ∧
  (∀ (p : Option Addr) (cap : Nat) (W : World),CallsIn F m Tryz.prog 103 #[.slice p 0 cap] W fun e w'=>e = .returned (.tuple #[])∧w'=W)

set_option maxRecDepth 100000 in
set_option maxHeartbeats 2000000 in
theorem Srt.sorted_in (F : Fence) (n : Nat) (h119 : F.fn 119) (h103 : F.fn 103) (h163 : F.fn 163) (h199 : F.fn 199) (h164 : F.fn 164) (hro : F.round=none) (hn : 4≤n) (hsort : Srt.SortsIn F (n-1)) (Bs : Nat) (sv : Value) (zs : List Int) (hlen : zs.length≤maxLen) (hbytes : zs.length*8≤140737488351232) (w : World) (hBs : Bs<w.heap.size)
    (hc : w.cell? ⟨Bs,0,none⟩=some sv) (hI : Srt.Ints w.heap.size w sv zs) :
    CallsIn F n Tryz.prog 119 #[.func (.func 164) #[] #[.pointer (some ⟨Bs,0,none⟩)]] w fun e W'=>∃ v,e = .returned v∧W'.ownsRow w.heap.size 3 1 v zs.length ((zs.mergeSort fun x y=>decide (x≤y)).map encZ)∧(v = .slice none 0 0↔zs = [])∧Below w.heap.size w W':=by
  have h1 : 1≤n:=by omega
  refine callsIn_of_wp Tryz.func119 rfl h119 ?_ hro
  simp only [Tryz.ntmps119,List.size_toArray,List.length_cons,List.length_nil,Nat.reduceAdd,Nat.reduceSub,Array.replicate_succ,Array.replicate_zero,List.push_toArray,List.append_toArray,List.nil_append,List.cons_append]
  gi_wp2_with (gi_at_call 163; refine (Srt.collect_in F (n-1) h163 h199 h164 hro (by omega) Bs sv zs hlen hbytes _ hBs hc hI).mono ?_; rintro e W ⟨v,rfl,hrow,hnil,hb⟩)
  rcases hrow.2 with ⟨rfl,hz⟩ | ⟨gb,cap,cur,rfl,hbase,hgb,r1,r2,r3,r4⟩
  · have hss : zs = []:=List.eq_nil_of_length_eq_zero hz
    subst hss
    gi_wp2_with (gi_at_call 103; refine (hsort.2 none 0 W).mono ?_; rintro e w' ⟨rfl,rfl⟩)
    go_ret
    exact ⟨.slice none 0 0,rfl,by simpa using hrow,by simp,hb⟩
  · have hH : Holds encZ W gb 0 zs.toArray:=holds_of_block_i hgb (by simpa using r4)
    have hgl : gb<W.heap.size:=(Array.getElem?_eq_some_iff.1 hgb).1
    have hsz : zs.length<4611686018427387904:=by omega
    have cS:=hsort.1 gb 0 cap zs W hH hgl hsz
    gi_wp2_with (gi_at_call 103; refine cS.mono ?_; rintro e w' ⟨rfl,nn,os,rfl⟩)
    go_ret
    exact ⟨_,rfl,ownsRow_sorted_i (by simp) hbase hgb r1 r2 r3,hnil,hb.grown (grownBy_sorted_i _) hb.size (fun j hj=>by cases hj; exact hbase)⟩

set_option maxRecDepth 100000 in
set_option maxHeartbeats 2000000 in
theorem Srt.lists_in (F : Fence) (n : Nat) (h67 : F.fn 67) (h120 : F.fn 120) (h119 : F.fn 119) (h103 : F.fn 103) (h163 : F.fn 163) (h199 : F.fn 199) (h164 : F.fn 164) (hro : F.round=none) (hn : 5≤n) (hsort : Srt.SortsIn F (n-1-1)) (p : Option Addr) (len cap : Nat) (zs : List Int) (hlen : zs.length≤maxLen) (hbytes : zs.length*8≤140737488351232) (w : World)
    (hI : Srt.Ints w.heap.size w (.slice p len cap) zs) :
    CallsIn F n Tryz.prog 67 #[.slice p len cap] w fun e W'=>∃ v,e = .returned v∧W'.ownsRow w.heap.size 3 1 v zs.length ((zs.mergeSort fun x y=>decide (x≤y)).map encZ)∧(v = .slice none 0 0↔zs = [])∧Below w.heap.size w W':=by
  have h1 : 1≤n:=by omega
  have bO:=Boxed.new w 22 (.slice p len cap)
  have hB0 : Below w.heap.size w (w.alloc (.cells #[.slice p len cap] 22)):=(Below.refl _ w).alloc (Nat.le_refl _) _
  have hI' : Srt.Ints (w.alloc (.cells #[.slice p len cap] 22)).heap.size (w.alloc (.cells #[.slice p len cap] 22)) (.slice p len cap) zs:=by
    rcases hI.below hB0 with h | ⟨b,off,c,e,hb,hc⟩
    · exact .inl h
    · exact .inr ⟨b,off,c,e,by simp; omega,hc⟩
  refine callsIn_of_wp Tryz.func67 rfl h67 ?_ hro
  simp only [Tryz.ntmps67,List.size_toArray,List.length_cons,List.length_nil,Nat.reduceAdd,Nat.reduceSub,Array.replicate_succ,Array.replicate_zero,List.push_toArray,List.append_toArray,List.nil_append,List.cons_append]
  gi_wp2_with (first
    | (gi_at_call 120; refine (Srt.values_in F (n-1) h120 hro p len cap _).mono ?_; rintro e w' ⟨rfl,rfl⟩)
    | (gi_at_call 119; refine (Srt.sorted_in F (n-1) h119 h103 h163 h199 h164 hro (by omega) hsort w.heap.size _ zs hlen hbytes _ (by simp) bO.cell hI').mono ?_; rintro e w' ⟨v,rfl,hrow,hnil,hb⟩))
  go_ret
  exact ⟨v,rfl,ownsRow_base_a hrow (by simp),hnil,hB0.trans (hb.mono (by simp))⟩

#print axioms Srt.lists_in
end Go.Proofs
namespace Go.Proofs
open Go.Shelf
def Srt.sortA_ren : Go.Shelf.Ren:=⟨fun | 5=>103 | 8=>157 | 7=>156 | 19=>194 | 20=>195 | 10=>185 | 11=>186 | 12=>187 | 13=>188 | 14=>189 | 15=>190 | 16=>191 | 17=>192 | 18=>193 | 30=>225 | 31=>226 | 32=>227 | 33=>228 | 34=>229 | 35=>162 | 40=>241 | n=>n,fun | 23=>22 | 25=>3 | 3=>3 | 32=>184 | 22=>22 | 0=>0 | 44=>218 | 46=>221 | 4=>4 | 36=>251 | 35=>250 | 41=>99 | 5=>5 | 9=>9 | 53=>280 | 57=>284 | 63=>294 | 64=>179 | n=>n,fun | n=>n⟩
theorem Srt.sortA : Go.Proofs.SlLaysM.n5 Tryz.prog Srt.sortA_ren := {
  mixed:=by kernel_rfl
  f5:=⟨Tryz.f103.name,by decide,Tryz.func103.trans (congrArg some (by kernel_rfl))⟩
  f7:=⟨Tryz.f156.name,by decide,Tryz.func156.trans (congrArg some (by kernel_rfl))⟩
  f8:=Tryz.func157.trans (congrArg some (by kernel_rfl))
  f10:=⟨Tryz.f185.name,by decide,Tryz.func185.trans (congrArg some (by kernel_rfl))⟩
  f11:=⟨Tryz.f186.name,by decide,Tryz.func186.trans (congrArg some (by kernel_rfl))⟩
  f12:=⟨Tryz.f187.name,by decide,Tryz.func187.trans (congrArg some (by kernel_rfl))⟩
  f13:=⟨Tryz.f188.name,by decide,Tryz.func188.trans (congrArg some (by kernel_rfl))⟩
  f14:=⟨Tryz.f189.name,by decide,Tryz.func189.trans (congrArg some (by kernel_rfl))⟩
  f15:=⟨Tryz.f190.name,by decide,Tryz.func190.trans (congrArg some (by kernel_rfl))⟩
  f16:=⟨Tryz.f191.name,by decide,Tryz.func191.trans (congrArg some (by kernel_rfl))⟩
  f17:=⟨Tryz.f192.name,by decide,Tryz.func192.trans (congrArg some (by kernel_rfl))⟩
  f18:=⟨Tryz.f193.name,by decide,Tryz.func193.trans (congrArg some (by kernel_rfl))⟩
  f19:=Tryz.func194.trans (congrArg some (by kernel_rfl))
  f20:=Tryz.func195.trans (congrArg some (by kernel_rfl))
  f30:=⟨Tryz.f225.name,by decide,Tryz.func225.trans (congrArg some (by kernel_rfl))⟩
  f31:=Tryz.func226.trans (congrArg some (by kernel_rfl))
  f32:=Tryz.func227.trans (congrArg some (by kernel_rfl))
  f33:=⟨Tryz.f228.name,by decide,Tryz.func228.trans (congrArg some (by kernel_rfl))⟩
  f34:=⟨Tryz.f229.name,by decide,Tryz.func229.trans (congrArg some (by kernel_rfl))⟩
  f35:=⟨Tryz.f162.name,by decide,Tryz.func162.trans (congrArg some (by kernel_rfl))⟩
  f40:=⟨Tryz.f241.name,by decide,Tryz.func241.trans (congrArg some (by kernel_rfl))⟩
  t0:=Tryz.underlying0
  a0:=Tryz.isAgg0
  z0:=Tryz.sizeOf0
  v0:=Tryz.zeroValue0
  t3:=Tryz.underlying3
  a3:=Tryz.isAgg3
  z3:=Tryz.sizeOf3
  v3:=Tryz.zeroValue3
  t4:=Tryz.underlying4
  a4:=Tryz.isAgg4
  z4:=Tryz.sizeOf4
  v4:=Tryz.zeroValue4
  t5:=Tryz.underlying5
  a5:=Tryz.isAgg5
  z5:=Tryz.sizeOf5
  v5:=Tryz.zeroValue5
  t9:=Tryz.underlying9
  a9:=Tryz.isAgg9
  z9:=Tryz.sizeOf9
  v9:=Tryz.zeroValue9
  t22:=Tryz.underlying22
  a22:=Tryz.isAgg22
  z22:=Tryz.sizeOf22
  v22:=Tryz.zeroValue22
  t23:=Tryz.underlying22
  a23:=Tryz.isAgg22
  z23:=Tryz.sizeOf22
  v23:=Tryz.zeroValue22
  t25:=Tryz.underlying3
  a25:=Tryz.isAgg3
  z25:=Tryz.sizeOf3
  v25:=Tryz.zeroValue3
  t32:=Tryz.underlying184
  a32:=Tryz.isAgg184
  z32:=Tryz.sizeOf184
  v32:=Tryz.zeroValue184
  t35:=Tryz.underlying250
  a35:=Tryz.isAgg250
  z35:=Tryz.sizeOf250
  v35:=Tryz.zeroValue250
  t36:=Tryz.underlying251
  a36:=Tryz.isAgg251
  z36:=Tryz.sizeOf251
  v36:=Tryz.zeroValue251
  t41:=Tryz.underlying99
  a41:=Tryz.isAgg99
  z41:=Tryz.sizeOf99
  v41:=Tryz.zeroValue99
  t44:=Tryz.underlying218
  a44:=Tryz.isAgg218
  z44:=Tryz.sizeOf218
  v44:=Tryz.zeroValue218
  t46:=Tryz.underlying221
  a46:=Tryz.isAgg221
  z46:=Tryz.sizeOf221
  v46:=Tryz.zeroValue221
  t53:=Tryz.underlying280
  a53:=Tryz.isAgg280
  z53:=Tryz.sizeOf280
  v53:=Tryz.zeroValue280
  t57:=Tryz.underlying284
  a57:=Tryz.isAgg284
  z57:=Tryz.sizeOf284
  v57:=Tryz.zeroValue284
  t63:=Tryz.underlying294
  a63:=Tryz.isAgg294
  z63:=Tryz.sizeOf294
  v63:=Tryz.zeroValue294
  t64:=Tryz.underlying179
  a64:=Tryz.isAgg179
  z64:=Tryz.sizeOf179
  v64:=Tryz.zeroValue179 }
end Go.Proofs
namespace Go.Proofs
open Go.RowKit Go.Maps Go.Sort Go.Shelf

theorem Srt.sorts (m : Nat) : Srt.SortsIn Fence.wide m :=
  ⟨fun blk off cap ss W hH hblk hsz=>callsIn_wide.2 (AnyM.slices_Sort_int Srt.sortA blk off cap ss W hH hblk hsz),
   fun p cap W=>callsIn_wide.2 (AnyM.slices_Sort_int_none Srt.sortA p cap W)⟩

theorem Srt.lists (p : Option Addr) (len cap : Nat) (zs : List Int) (hlen : zs.length≤maxLen) (hbytes : zs.length*8≤140737488351232) (w : World)
    (hI : Srt.Ints w.heap.size w (.slice p len cap) zs) :
    Calls Tryz.prog 67 #[.slice p len cap] w fun e W'=>∃ v,e = .returned v∧W'.ownsRow w.heap.size 3 1 v zs.length ((zs.mergeSort fun x y=>decide (x≤y)).map encZ)∧(v = .slice none 0 0↔zs = [])∧Below w.heap.size w W' :=
  (callsIn_wide (n:=6)).1 (Srt.lists_in Fence.wide 6 trivial trivial trivial trivial trivial trivial trivial rfl (by omega) (Srt.sorts _) p len cap zs hlen hbytes w hI)

#print axioms Srt.lists
end Go.Proofs
namespace Go.Abs
open Go Go.Proofs Go.RowKit

abbrev iA (x : Int) : AV := .int .i64 x
theorem ApT {c : Cx} : ∀ {zs : List Int} {vs : List Value},AaD c (zs.map iA) vs→vs=zs.map encZ∧∀ x ∈ zs,InR .i64 x
  | [],vs,h=>by simp only [List.map_nil,AaD] at h; subst h; simp
  | z::zs,vs,h=>by
    simp only [List.map_cons,AaD,Rep] at h
    obtain ⟨v,rest,rfl,⟨rfl,hz⟩,h⟩:=h
    obtain ⟨rfl,h2⟩:=ApT h
    refine ⟨rfl,?_⟩
    intro x hx
    rcases List.mem_cons.1 hx with rfl | hx
    · exact hz
    · exact h2 x hx
theorem Ap3 {c : Cx} : ∀ {zs : List Int},(∀ x ∈ zs,InR .i64 x)→AaD c (zs.map iA) (zs.map encZ)
  | [],_=>by simp [AaD]
  | z::zs,h=>by
    simp only [List.map_cons,AaD,Rep]
    exact ⟨_,_,rfl,⟨rfl,h z (by simp)⟩,Ap3 fun x hx=>h x (by simp [hx])⟩
theorem Ap4 {S : Nat→Prop} : ∀ (zs : List Int),AbP S (zs.map iA)
  | []=>by simp [AbP]
  | z::zs=>by simp only [List.map_cons,AbP,idsIn,true_and]; exact Ap4 zs
theorem Ari {n : Nat} (h : n*8≤140737488351232) : n≤maxLen:=by simp [maxLen]; omega

theorem AkW (nl fl : Bool) (zs : List Int) (hb : zs.length*8≤140737488351232) :
    Aab Tryz.prog 67 [.lst nl fl (zs.map iA)] [] (.lst false false ((zs.mergeSort fun x y=>decide (x≤y)).map iA)) [] where
  len:=Nat.le_refl _
  ga:=by simp only [gdL,gd,and_true]; exact Ap4 _
  gO:=fun o h=>by cases h
  gr:=by simp only [gd]; exact Ap4 _
  gO':=fun o h=>by cases h
  call:=by
    intro c w vs hr hu ha
    simp only [AaD] at ha
    obtain ⟨v,rest,hv,hx,hrest⟩:=ha
    subst hrest
    obtain rfl : vs = #[v]:=by rw [← Array.toList_inj]; exact hv
    obtain ⟨p,len,cap,rfl,hI,hR⟩ : ∃ p len cap,v = .slice p len cap∧Srt.Ints w.heap.size w (.slice p len cap) zs∧∀ x ∈ zs,InR .i64 x:=by
      simp only [Rep] at hx
      rcases hx with ⟨h0,rfl⟩ | ⟨_,a,b,off,cap,es,us,rfl,h1,h2,h3,h4,h5,h6⟩
      · obtain rfl : zs = []:=by simpa using h0
        exact ⟨none,0,0,rfl,.inl ⟨⟨_,_,rfl⟩,rfl⟩,by simp⟩
      · obtain ⟨rfl,hR⟩:=ApT h6
        refine ⟨_,_,_,rfl,?_,hR⟩
        by_cases hz : zs = []
        · subst hz; exact .inl ⟨⟨_,_,rfl⟩,rfl⟩
        · have hl : 0<zs.length:=List.length_pos_iff.2 hz
          obtain ⟨rfl,hZ⟩:=h4 (by simp at h1; omega)
          refine .inr ⟨b,off,cap,by simp,hr.zlt b hZ,fun j hj=>?_⟩
          have h7:=h5 j (by simpa using hj)
          rw [cell?_eq,← hr.heap]
          have hes : es=1:=by rw [← h7.1]; simp [Value.cells]
          have h8:=h7.2 0 (by simp [Value.cells])
          simp [Value.cells,hes] at h8
          simp [h8,hj]
    refine (Srt.lists p len cap zs (Ari hb) hb w hI).mono ?_
    rintro e w' ⟨v',rfl,hrow,hnil,hbl⟩
    obtain ⟨hr',hg⟩:=hr.grown hbl
    refine ⟨v',_,_,rfl,hr',fun i hi=>by simp at hi,?_,hg⟩
    simp only [Rep]
    rcases hrow.2 with ⟨rfl,hz⟩ | ⟨gb,cap',cur,rfl,hbase,hgb,r1,r2,r3,r4⟩
    · left
      obtain rfl : zs = []:=List.eq_nil_of_length_eq_zero hz
      simp
    · right
      have hln : ((zs.mergeSort fun x y=>decide (x≤y)).map encZ).length=zs.length:=by simp
      refine ⟨trivial,⟨gb,0,none⟩,gb,0,cap',1,(zs.mergeSort fun x y=>decide (x≤y)).map encZ,by rw [hln],by rw [hln]; exact r1,r2,(fun h=>by cases h),fun _=>⟨rfl,.inr ⟨hbase,(Array.getElem?_eq_some_iff.1 hgb).1⟩⟩,?_,?_⟩
      · intro i hi
        refine ⟨by simp [Value.cells],?_⟩
        intro k hk
        have hk0 : k=0:=by simp [Value.cells] at hk; omega
        subst hk0
        have hi' : i<zs.length:=by rw [hln] at hi; exact hi
        have hc : cur.toList[i]? = some ((zs.mergeSort fun x y=>decide (x≤y)).map encZ)[i]:=by
          have h9 : (cur.toList.take (zs.length*1))[i]? = some ((zs.mergeSort fun x y=>decide (x≤y)).map encZ)[i]:=by rw [r4]; exact List.getElem?_eq_getElem hi
          rw [List.getElem?_take] at h9
          simpa [hi'] using h9
        simp only [Aa6,hgb]
        simpa [Value.cells] using hc
      · exact Ap3 fun x hx=>hR x (List.mem_mergeSort.1 hx)
#print axioms AkW
end Go.Abs
set_option linter.unusedVariables false
namespace Go.Abs
inductive BT where
  | e
  | n (v : AV) (l r : BT)
noncomputable def BT.get (t : BT) : Nat→AV:=BT.rec (motive:=fun _=>Nat→AV) (fun _ => .skip) (fun v _ _ gl gr i=>Nat.rec v (fun _ _=>Nat.rec (gr (i / 2-1)) (fun _ _=>gl (i / 2)) (i % 2)) i) t
noncomputable def BT.putF (x : AV) (f : Nat) : Nat→BT→BT:=Nat.rec (motive:=fun _=>Nat→BT→BT) (fun _ t=>t) (fun _ ih i t=>BT.rec (motive:=fun _=>BT)
   (Nat.rec (.n x .e .e) (fun _ _=>Nat.rec (.n .skip .e (ih (i / 2-1) .e)) (fun _ _ => .n .skip (ih (i / 2) .e) .e) (i % 2)) i)
   (fun v l r _ _=>Nat.rec (.n x l r) (fun _ _=>Nat.rec (.n v l (ih (i / 2-1) r)) (fun _ _ => .n v (ih (i / 2) l) r) (i % 2)) i) t) f
noncomputable def BT.put (t : BT) (i : Nat) (x : AV) : BT:=BT.putF x (i+1) i t

theorem BT.get_e (i : Nat) : BT.e.get i = .skip:=rfl
theorem BT.get_n (v : AV) (l r : BT) (i : Nat) : (BT.n v l r).get i=if i=0 then v else if i % 2=0 then r.get (i / 2-1) else l.get (i / 2):=by
  cases i with
  | zero=>rfl
  | succ k =>
    rw [if_neg (by omega)]
    show (Nat.rec (r.get ((k+1) / 2-1)) (fun _ _=>l.get ((k+1) / 2)) ((k+1) % 2) : AV)=_
    have h : (k+1) % 2=0∨(k+1) % 2=1:=by omega
    rcases h with h | h <;> rw [h] <;> simp <;> rfl
theorem BT.putF_e (x : AV) (f i : Nat) : BT.putF x (f+1) i .e=if i=0 then .n x .e .e else if i % 2=0 then .n .skip .e (BT.putF x f (i / 2-1) .e) else .n .skip (BT.putF x f (i / 2) .e) .e:=by
  cases i with
  | zero=>rfl
  | succ k =>
    rw [if_neg (by omega)]
    show (Nat.rec (.n .skip .e (BT.putF x f ((k+1) / 2-1) .e)) (fun _ _ => .n .skip (BT.putF x f ((k+1) / 2) .e) .e) ((k+1) % 2) : BT)=_
    have h : (k+1) % 2=0∨(k+1) % 2=1:=by omega
    rcases h with h | h <;> rw [h] <;> simp <;> rfl
theorem BT.putF_n (x : AV) (f i : Nat) (v : AV) (l r : BT) : BT.putF x (f+1) i (.n v l r)=if i=0 then .n x l r else if i % 2=0 then .n v l (BT.putF x f (i / 2-1) r) else .n v (BT.putF x f (i / 2) l) r:=by
  cases i with
  | zero=>rfl
  | succ k =>
    rw [if_neg (by omega)]
    show (Nat.rec (.n v l (BT.putF x f ((k+1) / 2-1) r)) (fun _ _ => .n v (BT.putF x f ((k+1) / 2) l) r) ((k+1) % 2) : BT)=_
    have h : (k+1) % 2=0∨(k+1) % 2=1:=by omega
    rcases h with h | h <;> rw [h] <;> simp <;> rfl
theorem BT.get_putF (x : AV) : ∀ (f i : Nat) (t : BT) (j : Nat),i<f→(BT.putF x f i t).get j=if j=i then x else t.get j
  | 0,_,_,_,h=>absurd h (by omega)
  | f+1,i,t,j,h=>by
    cases t with
    | e =>
      rw [BT.putF_e]
      split
      · rename_i hi
        subst hi
        rw [BT.get_n]
        by_cases hj : j=0 <;> simp [hj,BT.get_e]
      · rename_i hi
        split
        · rename_i h2
          rw [BT.get_n,BT.get_putF x f _ _ _ (by omega)]
          by_cases hj : j=0
          · subst hj; rw [if_pos rfl,if_neg (by omega)]; rfl
          · rw [if_neg hj]
            by_cases hj2 : j % 2=0
            · rw [if_pos hj2]
              by_cases e : j=i
              · subst e; simp
              · rw [if_neg (by omega),if_neg e]; rfl
            · rw [if_neg hj2,if_neg (by omega)]; rfl
        · rename_i h2
          rw [BT.get_n,BT.get_putF x f _ _ _ (by omega)]
          by_cases hj : j=0
          · subst hj; rw [if_pos rfl,if_neg (by omega)]; rfl
          · rw [if_neg hj]
            by_cases hj2 : j % 2=0
            · rw [if_pos hj2,if_neg (by omega)]; rfl
            · rw [if_neg hj2]
              by_cases e : j=i
              · subst e; simp
              · rw [if_neg (by omega),if_neg e]; rfl
    | n v l r =>
      rw [BT.putF_n]
      split
      · rename_i hi
        subst hi
        rw [BT.get_n,BT.get_n]
        by_cases hj : j=0 <;> simp [hj]
      · rename_i hi
        split
        · rename_i h2
          rw [BT.get_n,BT.get_n,BT.get_putF x f _ _ _ (by omega)]
          by_cases hj : j=0
          · subst hj; rw [if_pos rfl,if_neg (by omega),if_pos rfl]
          · rw [if_neg hj,if_neg hj]
            by_cases hj2 : j % 2=0
            · rw [if_pos hj2,if_pos hj2]
              by_cases e : j=i
              · subst e; simp
              · rw [if_neg (by omega),if_neg e]
            · rw [if_neg hj2,if_neg hj2,if_neg (by omega)]
        · rename_i h2
          rw [BT.get_n,BT.get_n,BT.get_putF x f _ _ _ (by omega)]
          by_cases hj : j=0
          · subst hj; rw [if_pos rfl,if_neg (by omega),if_pos rfl]
          · rw [if_neg hj,if_neg hj]
            by_cases hj2 : j % 2=0
            · rw [if_pos hj2,if_pos hj2,if_neg (by omega)]
            · rw [if_neg hj2,if_neg hj2]
              by_cases e : j=i
              · subst e; simp
              · rw [if_neg (by omega),if_neg e]
theorem BT.get_put (t : BT) (i : Nat) (x : AV) : (t.put i x).get=upd t.get i x:=by
  funext j
  unfold BT.put upd
  rw [BT.get_putF x (i+1) i t j (by omega)]
noncomputable def BT.ofL (xs : List AV) (i : Nat) (t : BT) : BT:=List.rec (motive:=fun _=>Nat→BT→BT) (fun _ t=>t) (fun a _ ih i t=>ih (i+1) (t.put i a)) xs i t
theorem BT.ofL_get : ∀ (xs : List AV) (i : Nat) (t : BT) (j : Nat),(BT.ofL xs i t).get j=if i≤j∧j<i+xs.length then xs.getD (j-i) .skip else t.get j
  | [],i,t,j=>by rw [if_neg (by simp only [List.length_nil]; omega)]; rfl
  | a::xs,i,t,j=>by
    show (BT.ofL xs (i+1) (t.put i a)).get j=_
    rw [BT.ofL_get xs (i+1) (t.put i a) j,BT.get_put]
    simp only [List.length_cons]
    by_cases h1 : j=i
    · subst h1
      rw [if_neg (by omega),if_pos (by omega),AbR]
      simp
    · by_cases h2 : i+1≤j∧j<i+1+xs.length
      · rw [if_pos h2,if_pos (by omega)]
        obtain ⟨k,hk⟩ : ∃ k,j-i=k+1:=⟨j-i-1,by omega⟩
        rw [hk,show j-(i+1)=k by omega]
        rfl
      · rw [if_neg h2,if_neg (by omega),AbV _ _ h1]
abbrev SL:=BT
noncomputable def slF (l : SL) (t : Nat) : AV:=l.get t
noncomputable def putL (l : SL) (t : Nat) (x : AV) : SL:=l.put t x
theorem ApO (l : SL) (t : Nat) (x : AV) : slF (putL l t x)=upd (slF l) t x:=BT.get_put l t x
noncomputable def slOf (xs : List AV) : SL:=BT.ofL xs 0 .e
theorem Au4 (xs : List AV) (t : Nat) : slF (slOf xs) t=xs.getD t .skip:=by
  show (BT.ofL xs 0 .e).get t=_
  rw [BT.ofL_get]
  split
  · simp
  · rename_i h
    rw [BT.get_e,List.getD_eq_getElem?_getD,List.getElem?_eq_none (by omega)]; rfl
end Go.Abs
set_option linter.unusedVariables false
set_option linter.unusedSimpArgs false
namespace Go.Abs

abbrev HL:=List (Option AaZ)
def hpF (h : HL) : Aac:=fun i=>(h[i]?).getD none
theorem Ahs {h : HL} {i : Nat} {o : AaZ} (e : hpF h i=some o) : i<h.length:=by
  unfold hpF at e
  cases hh : h[i]? with
  | none=>rw [hh] at e; cases e
  | some x=>exact (List.getElem?_eq_some_iff.1 hh).1
theorem Aim {h : HL} {i : Nat} {q : AaZ×List AV} (e : oCs (hpF h i)=some q) : i<h.length:=by
  cases hh : hpF h i with
  | none=>rw [hh] at e; cases e
  | some o=>exact Ahs hh
theorem Afo {h : HL} {i : Nat} (hi : i<h.length) (x : Option AaZ) : hpF (h.set i x)=upd (hpF h) i x:=by
  funext j
  unfold hpF upd
  by_cases e : j=i
  · subst e; simp [hi]
  · simp [e,List.getElem?_set,Ne.symm e]
theorem An6 (h : HL) (x : Option AaZ) : hpF (h++[x])=upd (hpF h) h.length x:=by
  funext j
  unfold hpF upd
  by_cases e : j=h.length
  · subst e; simp
  · simp only [e,if_false]
    by_cases h1 : j<h.length
    · rw [List.getElem?_append_left h1]
    · rw [List.getElem?_eq_none (by simp; omega),List.getElem?_eq_none (by omega : h.length≤j)]

abbrev ER:=Option (AV×HL×List Nat×List Nat)
def Ok (K : CK) : AV×HL×List Nat×List Nat→Prop:=fun r=>K r.1 (hpF r.2.1) r.2.1.length r.2.2.1 r.2.2.2

section
variable {P : Program} {K : CK} {h : HL} {r : AV×HL×List Nat×List Nat} {s : Nat→AV} {t : TypeId}

def Auf (h : HL) (T : List Nat) : Option AV→ER
  | some r=>some (r,h,T,[])
  | none=>none
theorem Ai7 {T : List Nat} {x : Option AV} (e : Auf h T x=some r) (k : Ok K r) : Ao9 K (hpF h) h.length T x:=by
  cases x with
  | none=>cases e
  | some x=>cases e; exact k
def Avq (h : HL) (x y : AV) : AV→ER
  | .bool b=>some (Akk b x y,h,[],[])
  | _=>none
theorem Ar1 {x y z : AV} (e : Avq h x y z=some r) (k : Ok K r) : Ar9 K (hpF h) h.length x y z:=by
  cases z <;> first | (cases e; exact k) | cases e
def Ats (P : Program) (t : TypeId) (h : HL) : AV→ER
  | .cptr cs=>Auf h [] (AeL P t cs)
  | .ptr id off=>match oCs (hpF h id) with
    | some q=>Auf h [id] (AeL P t (q.2.drop off))
    | none=>none
  | _=>none
theorem Ar4 {x : AV} (e : Ats P t h x=some r) (k : Ok K r) : Aqq P t K (hpF h) h.length x:=by
  cases x <;> try (cases e; done)
  · exact Ai7 e k
  · rename_i id off
    simp only [Ats] at e
    simp only [Aqq]
    cases hq : oCs (hpF h id) with
    | none=>rw [hq] at e; cases e
    | some q=>rw [hq] at e; exact ⟨Aim hq,Ai7 e k⟩
def AqQ (P : Program) (t : TypeId) (z : AV) (h : HL) : AV→ER
  | .ptr id off=>match oCs (hpF h id) with
    | some q=>if (!q.2.isEmpty&&z.fits P t&&decide (off+z.cells.length≤q.2.length))=true then some (.skip,h.set id (some (q.1.with (setR q.2 off z.cells))),[id],[id]) else none
    | none=>none
  | _=>none
theorem AqP {x z : AV} (e : AqQ P t z h x=some r) (k : Ok K r) : Amb P t z K (hpF h) h.length x:=by
  cases x <;> try (cases e; done)
  rename_i id off
  simp only [AqQ] at e
  simp only [Amb]
  cases hq : oCs (hpF h id) with
  | none=>rw [hq] at e; cases e
  | some q =>
    rw [hq] at e
    simp only [] at e
    split at e
    · rename_i hc
      simp only [Bool.and_eq_true,decide_eq_true_eq,Bool.not_eq_true',List.isEmpty_eq_false_iff] at hc
      cases e
      have hl:=Aim hq
      refine ⟨hl,hc.1.1,hc.1.2,hc.2,?_⟩
      have:=k
      simp only [Ok,Afo hl,List.length_set] at this
      exact this
    · cases e
def Ar2 (h : HL) (x : AV) (o : AaZ) (T : List Nat) : ER:=some (x,h++[some o],T,[h.length])
theorem Afs {x : AV} {o : AaZ} {T : List Nat} (e : Ar2 h x o T=some r) (k : Ok K r) : K x (upd (hpF h) h.length (some o)) (h.length+1) T [h.length]:=by
  cases e
  have:=k
  simp only [Ok,An6,List.length_append,List.length_singleton] at this
  exact this
def Asn (h : HL) : Option (List AV)→ER
  | some z=>Ar2 h (.ptr h.length 0) (.cells z) []
  | none=>none
theorem Aqa {x : Option (List AV)} (e : Asn h x=some r) (k : Ok K r) : AoO K (hpF h) h.length x:=by
  cases x with
  | none=>cases e
  | some z=>exact Afs e k
def Ao1 (x : AV) (h : HL) (id : Nat) : ER:=match oCs (hpF h id) with
  | some q=>if q.2.isEmpty then none else some (x,h,[id],[])
  | none=>none
theorem AiI {x : AV} {id : Nat} (e : Ao1 x h id=some r) (k : Ok K r) : AgY x K (hpF h) h.length id (oCs (hpF h id)):=by
  unfold Ao1 at e
  cases hq : oCs (hpF h id) with
  | none=>rw [hq] at e; cases e
  | some q =>
    rw [hq] at e
    simp only [] at e
    split at e
    · cases e
    · rename_i hc
      cases e
      refine ⟨Aim hq,by intro h0; exact hc (by simp [h0]),k⟩
def Asl (h : HL) : Option Nat→AV→ER
  | some d,.cptr cs=>some (.cptr (cs.drop d),h,[],[])
  | some d,.ptr id off=>Ao1 (.ptr id (off+d)) h id
  | _,_=>none
theorem AqX {d : Option Nat} {x : AV} (e : Asl h d x=some r) (k : Ok K r) : AoL K (hpF h) h.length d x:=by
  cases d with
  | none=>cases e
  | some d=>cases x <;> first | (cases e; exact k) | exact AiI e k | cases e
def AyS (h : HL) : AV→ER
  | .cptr cs=>some (.cptr cs,h,[],[])
  | .fn f cs=>some (.fn f cs,h,[],[])
  | .ptr id off=>Ao1 (.ptr id off) h id
  | _=>none
theorem Atq {x : AV} (e : AyS h x=some r) (k : Ok K r) : Aws K (hpF h) h.length x:=by
  cases x <;> first | (cases e; exact k) | exact AiI e k | cases e
def Axr (h : HL) : AV→AV→Option (TypeId×Nat×Nat)→Option (Nat×Nat)→ER
  | .lst _ _ xs,.int _ i,some (_,es,_),_=>if decide (0≤i)&&decide (i.toNat<xs.length)&&((xs[i.toNat]?).getD .undef).okc&&(((xs[i.toNat]?).getD .undef).cells.length==es) then some (.cptr ((xs[i.toNat]?).getD .undef).cells,h,[],[]) else none
  | .slc id off es len _,.int _ i,some (_,es',_),_=>if (es'==es)&&decide (0≤i)&&decide (i.toNat<len) then Ao1 (.ptr id (off+i.toNat*es)) h id else none
  | .cptr cs,.int _ i,_,some (m,es)=>if decide (0≤i)&&decide (i<m) then some (.cptr (cs.drop (i.toNat*es)),h,[],[]) else none
  | .ptr id off,.int _ i,_,some (m,es)=>if decide (0≤i)&&decide (i<m) then Ao1 (.ptr id (off+i.toNat*es)) h id else none
  | _,_,_,_=>none
theorem Atu {x y : AV} {a : Option (TypeId×Nat×Nat)} {b : Option (Nat×Nat)} (e : Axr h x y a b=some r) (k : Ok K r) : Awu P t K (hpF h) h.length x y a b:=by
  unfold Axr at e
  split at e
  · split at e
    · rename_i hc; cases e
      simp only [Bool.and_eq_true,decide_eq_true_eq,beq_iff_eq] at hc
      exact ⟨hc.1.1.1,hc.1.1.2,hc.1.2,hc.2,k⟩
    · cases e
  · split at e
    · rename_i hc
      simp only [Bool.and_eq_true,decide_eq_true_eq,beq_iff_eq] at hc
      exact ⟨hc.1.1,hc.1.2,hc.2,AiI e k⟩
    · cases e
  · split at e
    · rename_i hc; cases e
      simp only [Bool.and_eq_true,decide_eq_true_eq] at hc
      cases a <;> exact ⟨hc.1,hc.2,k⟩
    · cases e
  · split at e
    · rename_i hc
      simp only [Bool.and_eq_true,decide_eq_true_eq] at hc
      cases a <;> exact ⟨hc.1,hc.2,AiI e k⟩
    · cases e
  · cases e
def AqW (P : Program) (t : TypeId) (h : HL) : AV→AV→Option (Nat×Abe)→ER
  | .str b,.int _ i,_=>if Aiw P t&&decide (0≤i)&&decide (i.toNat<b.size) then some (.int .u8 (b.data.toList.getD i.toNat 0).toNat,h,[],[]) else none
  | .agg xs,.int _ i,some (m,_)=>if decide (0≤i)&&decide (i<m)&&decide (i.toNat<xs.length) then some ((xs[i.toNat]?).getD .undef,h,[],[]) else none
  | _,_,_=>none
theorem AqV {x y : AV} {a : Option (Nat×Abe)} (e : AqW P t h x y a=some r) (k : Ok K r) : AoK P t K (hpF h) h.length x y a:=by
  unfold AqW at e
  split at e
  · split at e
    · rename_i hc; cases e
      simp only [Bool.and_eq_true,decide_eq_true_eq] at hc
      cases a <;> exact ⟨hc.1.1,hc.1.2,hc.2,k⟩
    · cases e
  · split at e
    · rename_i hc; cases e
      simp only [Bool.and_eq_true,decide_eq_true_eq] at hc
      exact ⟨hc.1.1,hc.1.2,hc.2,k⟩
    · cases e
  · cases e
def AoG (i : Nat) (h : HL) : AV→ER
  | .tup xs=>Auf h [] xs[i]?
  | _=>none
theorem AnP {i : Nat} {x : AV} (e : AoG i h x=some r) (k : Ok K r) : AiJ i K (hpF h) h.length x:=by
  cases x <;> first | exact Ai7 e k | cases e
def Aqj (op : BinOp) : AV→AV→Bool
  | .int _ _,.int _ b=>match op with
    | .quo | .rem=>b !=0
    | .shl | .shr=>decide (0≤b)
    | _=>true
  | .str a,.str b=>match op with
    | .add=>decide (a.size+b.size≤maxLen)
    | _=>true
  | _,_=>true
theorem Aqi {op : BinOp} {x y : AV} (e : Aqj op x y=true) : AhM op x y:=by
  cases x <;> cases y <;> first | trivial | (cases op <;> simp_all [Aqj,AhM])
def Axt (op : BinOp) (x y : AV) (h : HL) : Option AV→ER
  | some r=>if Aqj op x y then some (r,h,[],[]) else none
  | none=>none
theorem Atx {op : BinOp} {x y : AV} {z : Option AV} (e : Axt op x y h z=some r) (k : Ok K r) : Aww op x y K (hpF h) h.length z:=by
  cases z with
  | none=>cases e
  | some z =>
    simp only [Axt] at e
    split at e
    · rename_i hc; cases e; exact ⟨Aqi hc,k⟩
    · cases e
def AqY (h : HL) (q : Option (Nat×Option Nat)) : AV→ER
  | .agg cs=>Auf h [] (AiZ cs q)
  | _=>none
theorem Ao2 {q : Option (Nat×Option Nat)} {x : AV} (e : AqY h q x=some r) (k : Ok K r) : AlE K (hpF h) h.length q x:=by
  cases x <;> first | exact Ai7 e k | cases e
def Asm (h : HL) : Option (List AV)→ER
  | some cs=>some (.agg cs,h,[],[])
  | none=>none
theorem AqZ {x : Option (List AV)} (e : Asm h x=some r) (k : Ok K r) : AoN K (hpF h) h.length x:=by
  cases x with
  | none=>cases e
  | some x=>cases e; exact k
end
end Go.Abs
set_option linter.unusedVariables false
set_option linter.unusedSimpArgs false
namespace Go.Abs
section
variable {P : Program} {K : CK} {h : HL} {r : AV×HL×List Nat×List Nat} {s : Nat→AV} {t : TypeId}

def AsS (es : Nat) (xs : List AV) : Bool:=xs.all fun x=>x.okc&&(x.cells.length==es)
theorem ApP {es : Nat} {xs : List AV} (e : AsS es xs=true) : sized es xs:=by
  intro x hx
  have:=List.all_eq_true.1 e x hx
  simpa using this
def Ag4 (es : Nat) (xs : List AV) : Bool:=AsS es xs&&(AaI xs).all AV.one
theorem AeI {es : Nat} {xs : List AV} (e : Ag4 es xs=true) : okEls es xs:=by
  simp only [Ag4,Bool.and_eq_true] at e
  exact ⟨ApP e.1,fun x hx=>List.all_eq_true.1 e.2 x hx⟩
def Asr (s : Nat→AV) : Option Operand→Bool
  | none=>true
  | some y=>match ev s y with
    | .int _ n=>decide (0≤n)
    | _=>false
theorem Ahk {x : Option Operand} (e : Asr s x=true) : Aqh s x:=by
  unfold Asr at e; unfold Aqh
  split at e
  · trivial
  · split at e
    · rename_i hh; simp only [hh]; simpa using e
    · cases e
def Awf (s : Nat→AV) (len : Nat) (hi m : Option Operand) : Bool:=m.isNone||(hi.isSome&&(AcE s 0 m==some (AfJ s len hi)))
theorem Apx {len : Nat} {hi m : Option Operand} (e : Awf s len hi m=true) : m=none∨(hi.isSome=true∧AcE s 0 m=some (AfJ s len hi)):=by
  simp only [Awf,Bool.or_eq_true,Option.isNone_iff_eq_none,Bool.and_eq_true,beq_iff_eq] at e
  exact e
def Atp (s : Nat→AV) (l hi m : Option Operand) (h : HL) (id off es len : Nat) (full : Bool) : ER:=match oCs (hpF h id) with
  | some q=>if !q.2.isEmpty&&Asr s l&&Asr s hi&&Awf s len hi m&&decide (AfJ s 0 l≤AfJ s len hi)&&decide (AfJ s len hi≤len) then
      some (.slc id (off+AfJ s 0 l*es) es (AfJ s len hi-AfJ s 0 l) (m.isSome||(full&&hi.isNone)),h,[id],[]) else none
  | none=>none
theorem Ar0 {l hi m : Option Operand} {id off es len : Nat} {full : Bool} (e : Atp s l hi m h id off es len full=some r) (k : Ok K r) : Ao5 s l hi m K (hpF h) h.length id off es len full (oCs (hpF h id)):=by
  unfold Atp at e
  cases hq : oCs (hpF h id) with
  | none=>rw [hq] at e; cases e
  | some q =>
    rw [hq] at e
    simp only [] at e
    split at e
    · rename_i hc; cases e
      simp only [Bool.and_eq_true,decide_eq_true_eq,Bool.not_eq_true',List.isEmpty_eq_false_iff] at hc
      obtain ⟨⟨⟨⟨⟨c1,c2⟩,c3⟩,c4⟩,c5⟩,c6⟩:=hc
      exact ⟨Aim hq,c1,Ahk c2,Ahk c3,Apx c4,c5,c6,k⟩
    · cases e
def AqS (P : Program) (t : TypeId) (s : Nat→AV) (l hi m : Option Operand) (h : HL) : AV→Option (TypeId×Nat×Nat)→ER
  | .lst nl fl xs,some (_,es,_)=>if Ag4 es xs&&Asr s l&&Asr s hi&&Awf s xs.length hi m&&decide (AfJ s 0 l≤AfJ s xs.length hi)&&decide (AfJ s xs.length hi≤xs.length) then
      some (.lst nl (m.isSome||(fl&&hi.isNone)) ((xs.take (AfJ s xs.length hi)).drop (AfJ s 0 l)),h,[],[]) else none
  | .str b,_=>if Aiw P t&&m.isNone&&Asr s l&&Asr s hi&&decide (AfJ s 0 l≤AfJ s b.size hi)&&decide (AfJ s b.size hi≤b.size) then some (.str (b.extract (AfJ s 0 l) (AfJ s b.size hi)),h,[],[]) else none
  | .slc id off es len full,some (_,es',_)=>if es'==es then Atp s l hi m h id off es len full else none
  | _,_=>none
theorem AqR {l hi m : Option Operand} {x : AV} {a : Option (TypeId×Nat×Nat)} (e : AqS P t s l hi m h x a=some r) (k : Ok K r) : AoI P t s l hi m K (hpF h) h.length x a:=by
  unfold AqS at e
  split at e
  · split at e
    · rename_i hc; cases e
      simp only [Bool.and_eq_true,decide_eq_true_eq] at hc
      obtain ⟨⟨⟨⟨⟨c1,c2⟩,c3⟩,c4⟩,c5⟩,c6⟩:=hc
      exact ⟨AeI c1,Ahk c2,Ahk c3,Apx c4,c5,c6,k⟩
    · cases e
  · split at e
    · rename_i hc; cases e
      simp only [Bool.and_eq_true,decide_eq_true_eq,Option.isNone_iff_eq_none] at hc
      obtain ⟨⟨⟨⟨⟨c1,c2⟩,c3⟩,c4⟩,c5⟩,c6⟩:=hc
      cases a <;> exact ⟨c1,c2,Ahk c3,Ahk c4,c5,c6,k⟩
    · cases e
  · split at e
    · rename_i hc
      exact ⟨by simpa using hc,Ar0 e k⟩
    · cases e
  · cases e
def eMk (h : HL) (x : AV) (y : List AV) (o : AaZ) : Bool→ER
  | true=>Ar2 h x o []
  | false=>some (.lst false true y,h,[],[])
theorem Ask {x : AV} {y : List AV} {o : AaZ} {b : Bool} (e : eMk h x y o b=some r) (k : Ok K r) : Ao6 K (hpF h) h.length x y o b:=by
  cases b with
  | true=>exact Afs e k
  | false=>cases e; exact k
def Axq (s : Nat→AV) (n : Nat) (parts : List (Nat×Operand)) (mu : Bool) (h : HL) : Option (TypeId×Nat×Nat)→ER
  | some (_,es,_)=>if AgV 0 parts&&(parts.length==n)&&Ag4 es (parts.map fun p=>ev s p.2)&&decide (n*es≤16777216)&&decide (0<es) then
      eMk h (.slc h.length 0 es n true) (parts.map fun p=>ev s p.2) (.cells (AaI (parts.map fun p=>ev s p.2))) mu else none
  | none=>none
theorem Att {n : Nat} {parts : List (Nat×Operand)} {mu : Bool} {a : Option (TypeId×Nat×Nat)} (e : Axq s n parts mu h a=some r) (k : Ok K r) : Awt s n parts mu K (hpF h) h.length a:=by
  unfold Axq at e
  split at e
  · split at e
    · rename_i hc
      simp only [Bool.and_eq_true,decide_eq_true_eq,beq_iff_eq] at hc
      obtain ⟨⟨⟨⟨c1,c2⟩,c3⟩,c4⟩,c5⟩:=hc
      exact ⟨c1,c2,AeI c3,c4,c5,Ask e k⟩
    · cases e
  · cases e
def AqU (P : Program) (mu : Bool) (h : HL) : AV→AV→Option (TypeId×Nat×Nat)→ER
  | .int _ m,.int _ m',some (e,es,by_)=>if decide (m'=m)&&decide (0≤m)&&decide (by_*m.toNat≤281474976710656)&&decide (m.toNat≤maxLen)&&(AbD P e).isSome then
      eMk h (.slc h.length 0 es m.toNat true) (List.replicate m.toNat ((AbD P e).getD .undef)) (.cells (AaI (List.replicate m.toNat ((AbD P e).getD .undef)))) mu else none
  | _,_,_=>none
theorem AqT {mu : Bool} {x y : AV} {a : Option (TypeId×Nat×Nat)} (e : AqU P mu h x y a=some r) (k : Ok K r) : AoJ P mu K (hpF h) h.length x y a:=by
  unfold AqU at e
  split at e
  · split at e
    · rename_i hc
      simp only [Bool.and_eq_true,decide_eq_true_eq] at hc
      obtain ⟨⟨⟨⟨c1,c2⟩,c3⟩,c4⟩,c5⟩:=hc
      exact ⟨c1,c2,c3,c4,c5,Ask e k⟩
    · cases e
  · cases e
def AwK (h : HL) : AV→Bool
  | .lst _ _ _ | .str _=>true
  | .slc id off es len _=>(es==1)&&(match oCs (hpF h id) with | some q=>decide (off+len≤q.2.length) | none=>false)
  | _=>false
theorem ApM {x : AV} (e : AwK h x=true) : Amr (hpF h) h.length x:=by
  cases x <;> first | trivial | (cases e; done) | skip
  rename_i id off es len f
  simp only [AwK,Bool.and_eq_true,beq_iff_eq] at e
  obtain ⟨e1,e2⟩:=e
  simp only [Amr]
  cases hq : oCs (hpF h id) with
  | none=>rw [hq] at e2; cases e2
  | some q =>
    rw [hq] at e2
    exact ⟨e1,Aim hq,by simpa [Au2] using e2⟩
def AsI (h : HL) (es : Nat) (z : AV) : Bool:=AwK h z&&Ag4 es (Acm (hpF h) z)&&((Af0 z).isEmpty||(Acm (hpF h) z).all AV.one)
theorem Ahl {es : Nat} {z : AV} (e : AsI h es z=true) : Amr (hpF h) h.length z∧okEls es (Acm (hpF h) z)∧(Af0 z≠[]→(Acm (hpF h) z).all AV.one=true):=by
  simp only [AsI,Bool.and_eq_true,Bool.or_eq_true,List.isEmpty_iff] at e
  exact ⟨ApM e.1.1,AeI e.1.2,fun hne=>e.2.resolve_left hne⟩
def Axn : Option (TypeId×Nat×Nat)→Bool
  | some (_,es,_)=>es==1
  | none=>false
theorem Atl {x : Option (TypeId×Nat×Nat)} (e : Axn x=true) : Av4 x:=by
  cases x with
  | none=>cases e
  | some q=>simpa [Axn,Av4] using e
def Atw (P : Program) (src dst : TypeId) (h : HL) : AV→ER
  | .int _ n=>if (P.underlying src).isSome then (match Aiy P dst with | some k'=>some (.int k' (k'.wrap n),h,[],[]) | none=>none) else none
  | .str b=>if Aiw P src&&An4 P dst&&Axn (Aap P dst) then Ar2 h (.slc h.length 0 1 b.size false) (.cells (bytes b.data.toList)) [] else none
  | .slc id off es len full=>if decide (src=dst) then none else if An4 P src&&Aiw P dst&&AwK h (.slc id off es len full)&&AeP (Acm (hpF h) (.slc id off es len full)) then some (.str (sOf (Acm (hpF h) (.slc id off es len full))),h,Af0 (.slc id off es len full),[]) else none
  | .lst nl fl xs=>if An4 P src&&Aiw P dst&&AeP xs then some (.str (sOf xs),h,[],[]) else none
  | _=>none
theorem Ar5 {src dst : TypeId} {x : AV} (e : Atw P src dst h x=some r) (k : Ok K r) : ∃ mu,Aqu P mu src dst K (hpF h) h.length x:=by
  unfold Atw at e
  split at e
  · split at e
    · rename_i hc
      split at e
      · rename_i k' hk; cases e
        exact ⟨true,hc,by simp only [hk,AoM]; exact k⟩
      · cases e
    · cases e
  · split at e
    · rename_i hc
      rw [Bool.and_eq_true,Bool.and_eq_true] at hc
      exact ⟨true,hc.1.1,hc.1.2,Atl hc.2,Afs e k⟩
    · cases e
  · split at e
    · cases e
    · rename_i hd
      split at e
      · rename_i hc; cases e
        simp only [Bool.and_eq_true] at hc
        refine ⟨true,?_⟩
        simp only [Aqu,decide_eq_false (by simpa using hd)]
        exact ⟨hc.1.1.1,hc.1.1.2,ApM hc.1.2,hc.2,k⟩
      · cases e
  · split at e
    · rename_i hc; cases e
      simp only [Bool.and_eq_true] at hc
      exact ⟨true,hc.1.1,hc.1.2,trivial,hc.2,k⟩
    · cases e
  · cases e
end
end Go.Abs
set_option linter.unusedVariables false
set_option linter.unusedSimpArgs false
namespace Go.Abs
section
variable {P : Program} {K : CK} {h : HL} {r : AV×HL×List Nat×List Nat} {s : Nat→AV} {t : TypeId}

def Atz (h : HL) (nl fl : Bool) (ys : List AV) (z : AV) : Option (TypeId×Nat×Nat)→ER
  | some (_,es,by_) =>
    if (Acm (hpF h) z).isEmpty then
      if (fl||nl)&&Ag4 es ys&&AsI h es z&&decide (ys.length≤maxLen)&&decide (ys.length*by_≤140737488355328) then some (.lst nl false ys,h,Af0 z,[]) else none
    else if nl||(fl&&ys.isEmpty) then
      if decide (0<es)&&AsI h es z&&decide ((Acm (hpF h) z).length≤maxLen)&&decide ((Acm (hpF h) z).length*by_≤140737488355328) then Ar2 h (.slc h.length 0 es (Acm (hpF h) z).length false) (.grow (AaI (Acm (hpF h) z))) (Af0 z) else none
    else if fl then
      if decide (0<es)&&Ag4 es ys&&AsI h es z&&decide (ys.length+(Acm (hpF h) z).length≤maxLen)&&decide ((ys.length+(Acm (hpF h) z).length)*by_≤140737488355328) then Ar2 h (.slc h.length 0 es (ys.length+(Acm (hpF h) z).length) false) (.grow (AaI (ys++Acm (hpF h) z))) (Af0 z) else none
    else none
  | none=>none
theorem Ar7 {nl fl : Bool} {ys : List AV} {z : AV} {a : Option (TypeId×Nat×Nat)} (e : Atz h nl fl ys z a=some r) (k : Ok K r) : ∃ mu mf : Bool,(mf=true→mu=true)∧AsD mf K (hpF h) h.length nl fl ys z a mu:=by
  unfold Atz at e
  split at e
  · rename_i e0 es by_
    split at e
    · rename_i h0
      split at e
      · rename_i hc
        simp only [Bool.and_eq_true,Bool.or_eq_true,decide_eq_true_eq] at hc
        obtain ⟨⟨⟨⟨c1,c2⟩,c3⟩,c4⟩,c5⟩:=hc
        obtain ⟨a1,a2,a3⟩:=Ahl c3
        have hE : Acm (hpF h) z = []:=List.isEmpty_iff.1 h0
        refine ⟨false,false,fun h=>(by cases h),c1,AeI c2,a1,a2,a3,by rw [hE]; simpa using c4,by rw [hE]; simpa using c5,?_⟩
        cases e
        rw [hE]
        simpa [Ok] using k
      · cases e
    · rename_i h0
      split at e
      · rename_i h1
        split at e
        · rename_i hc
          simp only [Bool.and_eq_true,decide_eq_true_eq] at hc
          obtain ⟨⟨⟨c1,c2⟩,c3⟩,c4⟩:=hc
          obtain ⟨a1,a2,a3⟩:=Ahl c2
          refine ⟨true,false,fun h=>(by cases h),?_,c1,a1,a2,a3,c3,c4,Afs e k⟩
          simpa using h1
        · cases e
      · rename_i h1
        split at e
        · rename_i h2
          split at e
          · rename_i hc
            simp only [Bool.and_eq_true,decide_eq_true_eq] at hc
            obtain ⟨⟨⟨⟨c1,c2⟩,c3⟩,c4⟩,c5⟩:=hc
            obtain ⟨a1,a2,a3⟩:=Ahl c3
            refine ⟨true,true,fun _=>rfl,h2,?_,c1,AeI c2,a1,?_,a2,a3,c4,c5,Afs e k⟩
            · simp only [Bool.or_eq_true,not_or,Bool.not_eq_true] at h1; exact h1.1
            · intro hE; exact h0 (by rw [hE]; rfl)
          · cases e
        · cases e
  · cases e
def Axe : AaZ→Bool
  | .cells _=>true
  | _=>false
def Aty (h : HL) (id off es len : Nat) (z : AV) : Option (TypeId×Nat×Nat)→ER
  | some (_,es',by_)=>match oCs (hpF h id) with
    | some q=>if (es'==es)&&decide (0<es)&&(off+len*es==q.2.length)&&((off==0)||Axe q.1)&&q.2.all AV.one&&AsI h es z&&decide (len+(Acm (hpF h) z).length≤maxLen)&&decide ((len+(Acm (hpF h) z).length)*by_≤140737488355328) then
        some (.slc h.length 0 es (len+(Acm (hpF h) z).length) false,(h.set id none)++[some (q.1.with (q.2.drop off++AaI (Acm (hpF h) z)))],id::Af0 z,[id,h.length]) else none
    | none=>none
  | none=>none
theorem Ar6 {id off es len : Nat} {z : AV} {a : Option (TypeId×Nat×Nat)} (e : Aty h id off es len z a=some r) (k : Ok K r) : AsB K (hpF h) h.length id off es len z a (oCs (hpF h id)):=by
  unfold Aty at e
  split at e
  · rename_i e0 es' by_
    cases hq : oCs (hpF h id) with
    | none=>rw [hq] at e; cases e
    | some q =>
      rw [hq] at e
      simp only [] at e
      split at e
      · rename_i hc
        simp only [Bool.and_eq_true,Bool.or_eq_true,decide_eq_true_eq,beq_iff_eq] at hc
        obtain ⟨⟨⟨⟨⟨⟨⟨c1,c2⟩,c3⟩,c4⟩,c5⟩,c6⟩,c7⟩,c8⟩:=hc
        obtain ⟨a1,a2,a3⟩:=Ahl c6
        have hl:=Aim hq
        cases e
        refine ⟨hl,c1,c2,c3,?_,c5,a1,a2,a3,c7,c8,?_⟩
        · rcases c4 with c4 | c4
          · exact .inl c4
          · right
            revert c4
            cases q.1 <;> intro c4 <;> first | exact ⟨_,rfl⟩ | cases c4
        · have:=k
          simp only [Ok,An6,Afo hl,List.length_append,List.length_set,List.length_singleton] at this
          exact this
      · cases e
  · cases e
def Axs (h : HL) (id off es len : Nat) (z : AV) : Option (TypeId×Nat×Nat)→ER
  | some (_,es',_)=>match oCs (hpF h id) with
    | some q=>if (es'==es) && !q.2.isEmpty&&decide (off+len*es≤q.2.length)&&AsI h es z&&decide ((Acm (hpF h) z).length≤len) then
        some (.int .i64 (Acm (hpF h) z).length,h.set id (some (q.1.with (setR q.2 off (AaI (Acm (hpF h) z))))),id::Af0 z,[id]) else none
    | none=>none
  | none=>none
theorem Atv {id off es len : Nat} {z : AV} {a : Option (TypeId×Nat×Nat)} (e : Axs h id off es len z a=some r) (k : Ok K r) : Awv K (hpF h) h.length id off es len z a (oCs (hpF h id)):=by
  unfold Axs at e
  split at e
  · cases hq : oCs (hpF h id) with
    | none=>rw [hq] at e; cases e
    | some q =>
      rw [hq] at e
      simp only [] at e
      split at e
      · rename_i hc
        simp only [Bool.and_eq_true,Bool.not_eq_true',List.isEmpty_eq_false_iff,decide_eq_true_eq,beq_iff_eq] at hc
        obtain ⟨⟨⟨⟨c1,c2⟩,c3⟩,c4⟩,c5⟩:=hc
        obtain ⟨a1,a2,a3⟩:=Ahl c4
        have hl:=Aim hq
        cases e
        refine ⟨hl,c1,c2,c3,a1,a2,a3,c5,?_⟩
        have:=k
        simp only [Ok,Afo hl,List.length_set] at this
        exact this
      · cases e
  · cases e
def Atr (h : HL) (z : AV) (ok : Bool) (q : Option (Abe×AV)) : AV→ER
  | .map id=>match oMp (hpF h id),q with
    | some es,some (kd,zv)=>if kd.has z&&(es.all fun p=>kd.has p.1) then some (Ajq zv (Ah4 es z) ok,h,[id],[]) else none
    | _,_=>none
  | _=>none
theorem AsY {i : Nat} {es : List (AV×AV)} (e : oMp (hpF h i)=some es) : i<h.length:=Ahs (Ag5 e)
theorem Ar3 {z x : AV} {ok : Bool} {q : Option (Abe×AV)} (e : Atr h z ok q x=some r) (k : Ok K r) : Aqo K (hpF h) h.length z ok q x:=by
  cases x <;> try (cases e; done)
  rename_i id
  simp only [Atr] at e
  simp only [Aqo]
  split at e
  · rename_i es kd zv he
    split at e
    · rename_i hc; cases e
      simp only [Bool.and_eq_true] at hc
      rw [he]
      exact ⟨AsY he,hc.1,hc.2,k⟩
    · cases e
  · cases e
def AoF (h : HL) (z v : AV) (q : Option (Abe×AV)) : AV→ER
  | .map id=>match oMp (hpF h id),q with
    | some es,some (kd,_)=>if kd.has z&&(es.all fun p=>kd.has p.1) then some (.skip,h.set id (some (.mp (Aeo es z v))),[id],[id]) else none
    | _,_=>none
  | _=>none
theorem AmP {z v x : AV} {q : Option (Abe×AV)} (e : AoF h z v q x=some r) (k : Ok K r) : AjE K (hpF h) h.length z v q x:=by
  cases x <;> try (cases e; done)
  rename_i id
  simp only [AoF] at e
  simp only [AjE]
  split at e
  · rename_i es kd zv he
    split at e
    · rename_i hc; cases e
      simp only [Bool.and_eq_true] at hc
      rw [he]
      have hl:=AsY he
      refine ⟨hl,hc.1,hc.2,?_⟩
      have:=k
      simp only [Ok,Afo hl,List.length_set] at this
      exact this
    · cases e
  · cases e
def Ak7 (P : Program) (d : Option Nat) (h : HL) : Builtin→List TypeId→List AV→ER
  | .len,[t],[.lst _ _ ys]=>if Aja P t then some (.int .i64 ys.length,h,[],[]) else none
  | .len,[t],[.str b]=>if Aiw P t then some (.int .i64 b.size,h,[],[]) else none
  | .len,[t],[.slc id _ _ len _]=>if Aja P t&&(hpF h id).isSome then some (.int .i64 len,h,[id],[]) else none
  | .max,_,[.int k a,.int k' b]=>if k=k' then some (AuU k a b,h,[],[]) else none
  | .min,_,[.int k a,.int k' b]=>if k=k' then some (AuT k a b,h,[],[]) else none
  | .append,[t,t'],[.lst nl fl ys,z]=>if AcP P t'&&d.isSome then Atz h nl fl ys z (Aap P t) else none
  | .append,[t,t'],[.slc id off es len _,z]=>if AcP P t' then Aty h id off es len z (Aap P t) else none
  | .copy,[t,_],[.slc id off es len _,z]=>Axs h id off es len (AlA len z) (Aap P t)
  | _,_,_=>none
theorem AnQ {d : Option Nat} {b : Builtin} {ts : List TypeId} {az : List AV} (e : Ak7 P d h b ts az=some r) (k : Ok K r) : ∃ mu,AiK P (Al6 mu d) (AuX mu d) K (hpF h) h.length b ts az:=by
  unfold Ak7 at e
  split at e
  · split at e
    · rename_i hc; cases e; exact ⟨[],hc,k⟩
    · cases e
  · split at e
    · rename_i hc; cases e; exact ⟨[],hc,k⟩
    · cases e
  · split at e
    · rename_i hc; cases e
      simp only [Bool.and_eq_true] at hc
      obtain ⟨o,ho⟩:=Option.isSome_iff_exists.1 hc.2
      exact ⟨[],hc.1,Ahs ho,⟨o,ho⟩,k⟩
    · cases e
  · split at e
    · rename_i hc; cases e; exact ⟨[],hc,k⟩
    · cases e
  · split at e
    · rename_i hc; cases e; exact ⟨[],hc,k⟩
    · cases e
  · split at e
    · rename_i hc
      simp only [Bool.and_eq_true] at hc
      obtain ⟨dd,rfl⟩:=Option.isSome_iff_exists.1 hc.2
      obtain ⟨mu,mf,hm,hb⟩:=Ar7 e k
      cases mu with
      | false =>
        cases mf with
        | true=>cases hm rfl
        | false=>exact ⟨[],hc.1,by simpa [Al6,AuX] using hb⟩
      | true =>
        cases mf with
        | false=>exact ⟨[dd],hc.1,by simpa [Al6,AuX] using hb⟩
        | true=>exact ⟨[dd,dd+1000000],hc.1,by simpa [Al6,AuX] using hb⟩
    · cases e
  · split at e
    · rename_i hc; exact ⟨[],hc,Ar6 e k⟩
    · cases e
  · exact ⟨[],Atv e k⟩
  · cases e
end
end Go.Abs
set_option linter.unusedVariables false
set_option linter.unusedSimpArgs false
namespace Go.Abs

theorem Alt {P : Program} {o : Oper} {s : Nat→AV} {H : Aac} {N : Nat} (hc : AaY o=true) (t t' : TypeId) (y z : Operand) (ho : o.op = .call { callee := .builtin .append,args := #[y,z],argTypes := #[t,t'] })
    (nl fl : Bool) (xs : List AV) (hy : ev s y = .lst nl fl xs) (e es by_ : Nat) (hE : Aap P t=some (e,es,by_)) (hX : AcP P t'=true) (T : List Nat) (hs : AnU H N es (ev s z) [] T) :
    Aao P o s H N (.lst nl fl xs) H N T []:=by
  obtain ⟨i,hu,hi,hsz,hby,z0,hz0,hzs⟩:=Aa9 hE
  refine Aao.read T hs.below fun n c s1 H1 a w hrel hu' hT=>?_
  have r1:=Aaj hrel hu' hc (x:=y) (by simp [ho,Op.operands,Call.operands])
  have r2:=Aaj hrel hu' hc (x:=z) (by simp [ho,Op.operands,Call.operands])
  rw [hy] at r1
  have S:=AdD (P:=P) hrel.hr r2 (Ab8 hs.src hT) hs.sized hs.one hs.slc
  obtain ⟨arr,a1,a2,a3,a4⟩:=S.cells
  obtain ⟨ad,cap,hv,c1,c2,c3,c4,c5⟩:=Aek r1
  have harr : arr = #[]:=Array.size_eq_zero_iff.1 (by rw [a4]; simp)
  subst harr
  refine ⟨.slice ad xs.length cap,?_,?_⟩
  · have:=AcS (P:=P) (w:=w) (w':=w) (ty:=o.type) hu hX hi ad xs.length cap 0 (a.eval z) #[] (by simpa using S.len w rfl) (by rw [hsz]; simpa using a1 w rfl) (by omega) (by cases ad <;> simp [storeCells])
    simp [execOp,ho,resolve,invoke,builtin,hv,this]
  · rw [← hv]; exact r1

theorem Apn {P : Program} {o : Oper} {s : Nat→AV} {H : Aac} {N : Nat} (hc : AaY o=true) (t : TypeId) (y : Operand) (ho : o.op = .call { callee := .builtin .cap,args := #[y],argTypes := #[t] })
    (fl : Bool) (xs : List AV) (hy : ev s y = .lst true fl xs) (hS : Aja P t=true) : Aao P o s H N (.int .i64 0) H N [] [] :=
  Aao.pure hc fun ρ w c hh hrep=>by
    have r1:=hrep y (by simp [ho,Op.operands,Call.operands])
    rw [hy] at r1
    simp only [Rep] at r1
    have hv : ρ y = .slice none 0 0:=by
      rcases r1 with h | h
      · exact h.2
      · exact absurd h.1 (by simp)
    unfold Aja at hS
    split at hS
    · rename_i e hu
      refine ⟨.int .i64 0,?_,?_⟩
      · simp [execOp,ho,resolve,invoke,builtin,hv,Builtin.cap_,run_underlying hu,goInt]
      · simp [Rep,InR,IntKind.min,IntKind.max,IntKind.signed,IntKind.bits]
    · cases hS

theorem AlX {P : Program} {w : World} {st xt ty e : TypeId} {i : TypeInfo} {z : Value} {kk : IntKind} (hS : P.underlying st=some (.slice e)) (hX : P.underlying xt=some (.int kk)) (hi : P.info? e=some i) (hz : i.zero=some z)
    (n : Nat) (hn : 0<n) (hs0 : 0<i.size) (hm : n≤maxLen) (hb : n*i.bytes≤140737488355328) :
    (Builtin.append_ #[st,xt] ty #[.slice none 0 0,.int .i64 n]).run P w =
      .ok (.slice (some ⟨w.heap.size,0,none⟩) n (grownCap w n 0 e)) (w.drew.alloc (.cells (#[]++Builtin.zeroCells z.cells n++Builtin.zeroCells z.cells (grownCap w n 0 e-n)) e)):=by
  have hfit:=growslice_fits (old:=0) hn hb
  have hfit' : ¬ (281474976710656<Builtin.nextslicecap n 0*i.bytes):=by omega
  have hw : IntKind.wrap .i64 (n : Int)=n:=by
    unfold maxLen at hm
    exact AnY (by omega) (by omega)
  have hneg : ¬ ((n : Int)<0):=by omega
  have hbig : ¬ ((281474976710656 : Int)<(n : Int)*(i.bytes : Int)):=by
    intro hlt
    have h3 : ((n*i.bytes : Nat) : Int)=(n : Int)*(i.bytes : Int):=Int.natCast_mul n i.bytes
    rw [← h3] at hlt
    omega
  have hmax : ¬ ((9223372036854775807 : Int)<(n : Int)):=by unfold maxLen at hm; omega
  have hz' : ¬ (n*i.size=0):=by
    have:=Nat.mul_pos hn hs0; omega
  have hn0 : ¬ (n=0):=by omega
  have hs' : ¬ (i.size=0):=by omega
  simp [Builtin.append_,run_underlying hS,run_underlying hX,sizeOf,typeInfo,hi,asInt,asIntOf,hw,hneg,hbig,IntKind.max,IntKind.signed,IntKind.bits,hmax,hfit',Question.forced,zeroValue,hz,newRow,grownCap,hn0,hs',Builtin.firstCells]
  exact fun h=>absurd h hz'

theorem Aln {P : Program} {o : Oper} {s : Nat→AV} {H : Aac} {N : Nat} (hc : AaY o=true) (t t' : TypeId) (y z : Operand) (ho : o.op = .call { callee := .builtin .append,args := #[y,z],argTypes := #[t,t'] })
    (fl : Bool) (xs : List AV) (hy : ev s y = .lst true fl xs) (e es by_ : Nat) (hE : Aap P t=some (e,es,by_)) (kk : IntKind) (hX : P.underlying t'=some (.int kk)) (m : Nat) (hz : ev s z = .int .i64 m) (hn : 0<m)
    (hes : 0<es) (hm : m≤maxLen) (hb : m*by_≤140737488355328) (x : AV) (hx : AbD P e=some x) :
    Aao P o s H N (.slc N 0 es m false) (upd H N (some (.grow (AaI (List.replicate m x))))) (N+1) [] [N]:=by
  obtain ⟨i,hu,hi,hsz,hby,z0,hz0,hzs⟩:=Aa9 hE
  refine Aao.new (.grow (AaI (List.replicate m x))) [] (fun _ h=>by simp at h) fun n c s1 H1 a w hrel hu' hT hun=>?_
  have r1:=Aaj hrel hu' hc (x:=y) (by simp [ho,Op.operands,Call.operands])
  have r2:=Aaj hrel hu' hc (x:=z) (by simp [ho,Op.operands,Call.operands])
  rw [hy] at r1
  rw [hz] at r2
  have hv : a.eval y = .slice none 0 0:=by
    simp only [Rep] at r1
    rcases r1 with h | h
    · exact h.2
    · exact absurd h.1 (by simp)
  have hv2 : a.eval z = .int .i64 m:=by simp only [Rep] at r2; exact r2.1
  have hrun:=AlX (P:=P) (w:=w) (ty:=o.type) hu hX hi hz0 m hn (by rw [hsz]; exact hes) hm (by rw [hby]; exact hb)
  have hge:=grownCap_ge w m 0 e
  have hle:=grownCap_le_maxLen w m 0 e hm
  generalize grownCap w m 0 e=cap at hrun hge hle
  obtain ⟨v,v1,v2,v3,v4⟩:=Ae7 hx hi hz0
  have hsx : sized es (List.replicate m x):=by
    intro y hy
    rw [List.eq_of_mem_replicate hy]
    exact ⟨v3,by omega⟩
  have hfr:=AfG hsx (AdE (v2 c) m)
  rw [AdJ,v1,← Adb] at hfr
  have harrsz : (#[]++Builtin.zeroCells z0.cells m++Builtin.zeroCells z0.cells (cap-m) : Array Value).size=cap*es:=by
    simp only [Array.size_append,Ace,hzs,Array.size_empty,Nat.zero_add,← Nat.add_mul]
    congr 1; omega
  refine ⟨.slice (some ⟨w.heap.size,0,none⟩) m cap,.cells (#[]++Builtin.zeroCells z0.cells m++Builtin.zeroCells z0.cells (cap-m)) e,w.drew.alloc (.cells (#[]++Builtin.zeroCells z0.cells m++Builtin.zeroCells z0.cells (cap-m)) e),0,cap*es,
    by simp only [execOp,ho,resolve,invoke,builtin,List.map_toArray,List.map_cons,List.map_nil,hv,hv2,Sem.run_bind,Sem.run_pure,Result.andThen_ok,hrun],rfl,rfl,rfl,rfl,fun L=>⟨?_,?_⟩⟩
  · exact Adn (c:=c) (o := .grow []) (cs:=[]) rfl (fun _ h0=>by
        have h3:=hfr.length
        rw [h0] at h3
        have h4 : (Builtin.zeroCells z0.cells m).size=0:=by
          simp only [List.length_nil,Array.length_toList] at h3
          exact h3
        rw [Ace,hzs] at h4
        have:=Nat.mul_pos hn hes
        omega) (by simp only [Array.getElem?_push_size]; rfl) harrsz (hfr.mono L) ⟨(Builtin.zeroCells z0.cells (cap-m)).toList,by simp⟩
  · simp only [Rep,AbR]
    refine ⟨by simp,rfl,fun h=>by simp at h,fun b' base' sz' h=>?_⟩
    simp only [Aei.live.injEq] at h
    obtain ⟨rfl,rfl,rfl⟩:=h
    exact ⟨cap,0,by simp,fun _=>rfl,by omega,hle,by omega,by simp⟩

def Ayn : Option TypeDesc→Bool
  | some (.int _)=>true
  | _=>false
def Avo (P : Program) (t' : TypeId) (h : HL) (nl : Bool) (z : AV) (e es by_ : Nat) : ER:=match z,AbD P e with
  | .int .i64 m,some x=>if nl&&Ayn (P.underlying t')&&decide (0<m)&&decide (0<es)&&decide (m.toNat≤maxLen)&&decide (m.toNat*by_≤140737488355328) then
      Ar2 h (.slc h.length 0 es m.toNat false) (.grow (AaI (List.replicate m.toNat x))) [] else none
  | _,_=>none
def Avp (P : Program) (s : Nat→AV) (h : HL) : Builtin→List Operand→List TypeId→ER
  | .append,[y,z],[t,t']=>match ev s y,Aap P t with
    | .lst nl fl xs,some (e,es,by_)=>if AcP P t'&&AsI h es (ev s z)&&(Acm (hpF h) (ev s z)).isEmpty then some (.lst nl fl xs,h,Af0 (ev s z),[]) else Avo P t' h nl (ev s z) e es by_
    | _,_=>none
  | .cap,[y],[t]=>match ev s y with
    | .lst true _ _=>if Aja P t then some (.int .i64 0,h,[],[]) else none
    | _=>none
  | _,_,_=>none
def Axp (P : Program) (s : Nat→AV) (h : HL) : Op→ER
  | .call { callee := .builtin b,args:=az,argTypes:=ts } => Avp P s h b az.toList ts.toList
  | _=>none
section
variable {P : Program} {s : Nat→AV} {h : HL} {r : AV×HL×List Nat×List Nat} {K : CK} {o : Oper}
theorem ArM {es : Nat} {X : AV} (e : AsI h es X=true) : AnU (hpF h) h.length es X (Acm (hpF h) X) (Af0 X):=by
  obtain ⟨a1,a2,a3⟩:=Ahl e
  have key : Afc (hpF h) X=some (Acm (hpF h) X,Af0 X)∧(∀ id ∈ Af0 X,id<h.length):=by
    unfold Amr at a1
    split at a1
    · exact ⟨rfl,by simp [Af0]⟩
    · exact ⟨rfl,by simp [Af0]⟩
    · rename_i id off es' len f
      obtain ⟨rfl,h1,hq⟩:=a1
      obtain ⟨o,cs,h2,h3⟩:=AlO hq
      refine ⟨?_,by simpa [Af0] using h1⟩
      unfold oCs at h2
      cases hh : hpF h id with
      | none=>simp [hh] at h2
      | some o' =>
        simp only [hh,Option.bind_some,Option.map_eq_some_iff,Prod.mk.injEq] at h2
        obtain ⟨cs',q1,rfl,rfl⟩:=h2
        simp [Afc,hh,q1,h3,Acm,Af0,oCs]
    · exact a1.elim
  refine ⟨key.1,a2.1,a2.2,?_,key.2⟩
  rintro ⟨id,off,e',len,f,rfl⟩
  exact fun x hx=>List.all_eq_true.1 (a3 (by simp [Af0])) x hx
theorem Ato (hc : AaY o=true) (e : Axp P s h o.op=some r) (k : Ok K r) : Aq9 P o s (hpF h) h.length K:=by
  generalize ho : o.op=op at e
  unfold Axp at e
  split at e
  rotate_left
  · cases e
  rename_i b az ts
  generalize ha : az.toList=la at e
  generalize ht : ts.toList=lt at e
  have ha':=AbU ha
  have ht':=AbU ht
  subst ha' ht'
  unfold Avp at e
  split at e
  · rename_i y z t t'
    split at e
    · rename_i nl fl xs e0 es by_ hy hE
      split at e
      · rename_i hh
        simp only [Bool.and_eq_true,List.isEmpty_iff] at hh
        obtain ⟨⟨h1,h2⟩,h3⟩:=hh
        cases e
        have hs:=ArM h2
        rw [h3] at hs
        exact ⟨_,_,_,_,_,Alt hc t t' y z ho nl fl xs hy e0 es by_ hE h1 _ hs,k⟩
      · unfold Avo at e
        split at e
        · rename_i m x hz hx
          split at e
          · rename_i hh
            simp only [Bool.and_eq_true,decide_eq_true_eq] at hh
            obtain ⟨⟨⟨⟨⟨h1,h2⟩,h3⟩,h4⟩,h5⟩,h6⟩:=hh
            subst h1
            have hm : ((m.toNat : Nat) : Int)=m:=by omega
            have hk : ∃ kk,P.underlying t'=some (.int kk):=by
              revert h2
              cases P.underlying t' with
              | none=>intro h; cases h
              | some d=>cases d <;> intro h <;> first | exact ⟨_,rfl⟩ | cases h
            obtain ⟨kk,hk⟩:=hk
            exact ⟨_,_,_,_,_,Aln hc t t' y z ho fl xs hy e0 es by_ hE kk hk m.toNat (by rw [hm]; exact hz) (by omega) h4 h5 h6 x hx,Afs e k⟩
          · cases e
        · cases e
    · cases e
  · rename_i y t
    split at e
    · rename_i fl xs hy
      split at e
      · rename_i hS
        cases e
        exact ⟨_,_,_,_,_,Apn hc t y ho fl xs hy hS,k⟩
      · cases e
    · cases e
  · cases e
end
end Go.Abs
set_option linter.unusedVariables false
set_option linter.unusedSimpArgs false
namespace Go.Abs
noncomputable section

abbrev AeT:=FuncId→List AV→HL→ER
def eop (P : Program) (call : AeT) (lit mk : Bool) (d : Option Nat) (s : Nat→AV) (h : HL) : Op→ER
  | .move y=>some (ev s y,h,[],[])
  | .assign y=>some (ev s y,h,[],[])
  | .pick t x y=>Avq h (ev s x) (ev s y) (ev s t)
  | .binOp op xt x y _=>Axt op (ev s x) (ev s y) h (Auo P op xt (ev s x) (ev s y))
  | .unOp op _ x=>Auf h [] (aun op (ev s x))
  | .load t y=>Ats P t h (ev s y)
  | .store t y z=>AqQ P t (ev s z) h (ev s y)
  | .box t y=>if (ev s y).fits P t then Ar2 h (.ptr h.length 0) (.cells (ev s y).cells) [] else none
  | .alloc t=>Asn h (AbW P t)
  | .fieldAddr t y f=>Asl h (Abz P t f) (ev s y)
  | .nilCheck y=>AyS h (ev s y)
  | .indexAddr t y z=>Axr h (ev s y) (ev s z) (Aap P t) (Aet P t)
  | .index t y z=>AqW P t h (ev s y) (ev s z) (Aqx P t)
  | .extract y i=>AoG i h (ev s y)
  | .makeFunc (.func f) first caps=>if first.size=0 then some (.fn f (caps.toList.map (ev s)),h,[],[]) else none
  | .slice t y l hi m=>AqS P t s l hi m h (ev s y) (Aap P t)
  | .buildSlice t n parts=>Axq s n parts.toList (lit&&d.isSome) h (Aap P t)
  | .makeSlice t y z=>AqU P (mk&&d.isSome) h (ev s y) (ev s z) (Aap P t)
  | .build t parts=>if Abp P t then Asm h (AkB P t (parts.toList.map fun p=>(p.1,ev s p.2))) else none
  | .convert src dst y=>if d.isSome then Atw P src dst h (ev s y) else none
  | .field t y f=>AqY h (AcC P t f) (ev s y)
  | .makeMap _ none=>Ar2 h (.map h.length) (.mp []) []
  | .lookup t y z ok=>Atr h (ev s z) ok (AfE P t) (ev s y)
  | .mapUpdate t y z v=>AoF h (ev s z) (ev s v) (AfE P t) (ev s y)
  | .insert t y z v=>AoF h (ev s z) (ev s v) (AfE P t) (ev s y)
  | .call { callee := .builtin b,args:=az,argTypes:=ts } => Ak7 P d h b ts.toList (az.toList.map (ev s))
  | .call { callee := .value g,args:=az,argTypes:=_ } => match ev s g with
    | .fn f caps=>call f (az.toList.map (ev s)++caps) h
    | _=>none
  | _=>none

def AeQ (P : Program) (call : AeT) : Prop:=∀ f az h r,call f az h=some r→∀ K,Ok K r→Ajc P f az (hpF h) h.length K

section
variable {P : Program} {h : HL} {r : AV×HL×List Nat×List Nat} {s : Nat→AV}

theorem Ai0 {d : Option Nat} {b : Bool} : ∃ mu,Al6 mu d=(b&&d.isSome):=by
  cases d with
  | none=>exact ⟨[],by simp [Al6]⟩
  | some d=>cases b with
    | true=>exact ⟨[d],by simp [Al6]⟩
    | false=>exact ⟨[],by simp [Al6]⟩

theorem Avm {K : CK} {call : AeT} {lit mk : Bool} {d : Option Nat} {op : Op} (hcall : AeQ P call) (e : eop P call lit mk d s h op=some r) (k : Ok K r) : ∃ mu,bop P mu d s (hpF h) h.length K op:=by
  unfold eop at e
  split at e
  · cases e; exact ⟨[],k⟩
  · cases e; exact ⟨[],k⟩
  · exact ⟨[],Ar1 e k⟩
  · exact ⟨[],Atx e k⟩
  · exact ⟨[],Ai7 e k⟩
  · exact ⟨[],Ar4 e k⟩
  · exact ⟨[],AqP e k⟩
  · split at e
    · rename_i hc; exact ⟨[],hc,Afs e k⟩
    · cases e
  · exact ⟨[],Aqa e k⟩
  · exact ⟨[],AqX e k⟩
  · exact ⟨[],Atq e k⟩
  · exact ⟨[],Atu (P:=P) (t:=0) e k⟩
  · exact ⟨[],AqV e k⟩
  · exact ⟨[],AnP e k⟩
  · split at e
    · rename_i hc; cases e; exact ⟨[],hc,k⟩
    · cases e
  · exact ⟨[],AqR e k⟩
  · obtain ⟨mu,hm⟩:=Ai0 (d:=d) (b:=lit)
    refine ⟨mu,?_⟩
    simp only [bop,hm]; exact Att e k
  · obtain ⟨mu,hm⟩:=Ai0 (d:=d) (b:=mk)
    refine ⟨mu,?_⟩
    simp only [bop,hm]; exact AqT e k
  · split at e
    · rename_i hc; exact ⟨[],hc,AqZ e k⟩
    · cases e
  · split at e
    · rename_i hc
      obtain ⟨mu,hb⟩:=Ar5 e k
      obtain ⟨mu',hm⟩:=Ai0 (d:=d) (b:=mu)
      refine ⟨mu',?_⟩
      simp only [bop,hm,hc,Bool.and_true]; exact hb
    · cases e
  · exact ⟨[],Ao2 e k⟩
  · exact ⟨[],Afs e k⟩
  · exact ⟨[],Ar3 e k⟩
  · exact ⟨[],AmP e k⟩
  · exact ⟨[],AmP e k⟩
  · exact AnQ e k
  · rename_i g az ts
    split at e
    · rename_i f caps hg
      refine ⟨[],?_⟩
      simp only [bop,hg,AsA]
      exact hcall _ _ _ _ e K k
    · cases e
  · cases e

def Axo (P : Program) (call : AeT) (lit mk : Bool) (d : Option Nat) (s : Nat→AV) (h : HL) (op : Op) : ER:=match Axp P s h op with
  | some r=>some r
  | none=>eop P call lit mk d s h op
theorem Atm {K : CK} {call : AeT} {lit mk : Bool} {o : Oper} (hc : AaY o=true) (hcall : AeQ P call) (e : Axo P call lit mk o.dst s h o.op=some r) (k : Ok K r) : Aq9 P o s (hpF h) h.length K:=by
  unfold Axo at e
  split at e
  · rename_i r' hr; cases e; exact Ato hc hr k
  · obtain ⟨mu,hb⟩:=Avm hcall e k
    exact AjD hc hb

def Aw7 (l : SL) : Option Nat→AV→SL
  | some t,x=>putL l t x
  | none,_=>l
theorem Ani (l : SL) (d : Option Nat) (x : AV) : slF (Aw7 l d x)=Ag0 (slF l) d x:=by
  cases d with
  | none=>rfl
  | some d=>exact ApO l d x
def An7 (ops : List Oper) (l : SL) : Option (Nat×Bool)→Option Bool
  | none=>some true
  | some (j,want)=>match (ops[j]?).bind (·.dst) with
    | some d=>match slF l d with
      | .bool b=>some (b==want)
      | .skip=>some false
      | _=>none
    | none=>none
def Avl (P : Program) (call : AeT) (lit mk : Bool) (ops : List Oper) : List Oper→SL→HL→Option (SL×HL×Log)
  | [],l,h=>some (l,h,[])
  | o::os,l,h=>match An7 ops l o.guard with
    | some true=>match Axo P call lit mk o.dst (slF l) h o.op with
      | some r=>match Avl P call lit mk ops os (Aw7 l o.dst r.1) r.2.1 with
        | some q=>some (q.1,q.2.1,(r.2.2.1,r.2.2.2)::q.2.2)
        | none=>none
      | none=>none
    | some false=>match Avl P call lit mk ops os (Aw7 l o.dst .skip) h with
      | some q=>some (q.1,q.2.1,([],[])::q.2.2)
      | none=>none
    | none=>none

theorem AmB {ops : List Oper} {l : SL} {o : Oper} {b : Bool} (e : An7 ops l o.guard=some b) : AcI ops.toArray o (slF l) b:=by
  unfold AcI
  cases hg : o.guard with
  | none=>rw [hg] at e; simp only [An7,Option.some.injEq] at e; exact e.symm
  | some p =>
    obtain ⟨j,want⟩:=p
    rw [hg] at e
    simp only [An7] at e
    split at e
    · rename_i d hd
      refine ⟨d,by simpa using hd,?_⟩
      split at e
      · rename_i b' hb
        simp only [Option.some.injEq] at e
        exact .inl ⟨b',hb,e.symm⟩
      · rename_i hb
        simp only [Option.some.injEq] at e
        exact .inr ⟨hb,e.symm⟩
      · cases e
    · cases e

theorem AnO {call : AeT} {lit mk : Bool} {ops : List Oper} (hcall : AeQ P call) : ∀ (os : List Oper) (l : SL) (h : HL) (q : SL×HL×Log),(∀ o ∈ os,AaY o=true)→Avl P call lit mk ops os l h=some q →
    ∃ st,Tr P ops.toArray os (slF l) (hpF h) h.length st (slF q.1) (hpF q.2.1) q.2.1.length∧q.2.2=st.map fun t=>(t.T,t.W)
  | [],l,h,q,_,e=>by
    cases e
    exact ⟨[],⟨rfl,rfl,rfl,rfl⟩,rfl⟩
  | o::os,l,h,q,hc,e=>by
    unfold Avl at e
    split at e
    · rename_i hg
      split at e
      · rename_i r hr
        split at e
        · rename_i q' hq
          simp only [Option.some.injEq] at e
          subst e
          obtain ⟨x,H',N',T,W,h1,rfl,rfl,rfl,rfl,rfl⟩:=Atm (K:=fun x H N T W=>x=r.1∧H=hpF r.2.1∧N=r.2.1.length∧T=r.2.2.1∧W=r.2.2.2) (hc o (by simp)) hcall hr ⟨rfl,rfl,rfl,rfl,rfl⟩
          obtain ⟨st,k1,k2⟩:=AnO hcall os _ _ _ (fun o ho=>hc o (by simp [ho])) hq
          rw [Ani] at k1
          exact ⟨⟨true,r.1,hpF r.2.1,r.2.2.1,r.2.2.2,r.2.1.length⟩::st,⟨_,_,rfl,AmB hg,fun _=>⟨h1.op,h1.rest⟩,fun h=>(by cases h),h1.n,h1.tn,h1.wn,k1⟩,by simp [k2]⟩
        · cases e
      · cases e
    · rename_i hg
      split at e
      · rename_i q' hq
        simp only [Option.some.injEq] at e
        subst e
        obtain ⟨st,k1,k2⟩:=AnO hcall os _ _ _ (fun o ho=>hc o (by simp [ho])) hq
        rw [Ani] at k1
        exact ⟨⟨false,.skip,hpF h,[],[],h.length⟩::st,⟨_,_,rfl,AmB hg,fun h=>(by cases h),fun _=>⟨rfl,rfl,rfl,rfl⟩,Nat.le_refl _,by simp,by simp,k1⟩,by simp [k2]⟩
      · cases e
    · cases e

def AwU (n : Nat) (ops : List Oper) : Bool:=AkY n ops&&AeN ops&&AiY ops&&ops.all AaY

theorem AW.regionT {n : Nat} {c0 : Cx} {w0 : World} {Q : AcH} {H : Aac} {N id : Nat} {ops : List Oper} {draw : Bool} (hm : P.follows .mixedOrders=true) (hok : AwU n ops=true)
    {st : List Step} {s' : Nat→AV} {H' : Aac} {N' : Nat} (htr : Tr P ops.toArray ops s H N st s' H' N') (hio : (!draw||Abi ops (st.map fun t=>(t.T,t.W)))=true) (hq : Q .normal s' H' N') :
    AW P n c0 w0 (.region id ops.toArray draw) Q s H N:=by
  simp only [AwU,Bool.and_eq_true] at hok
  obtain ⟨⟨⟨h1,h2⟩,h3⟩,h4⟩:=hok
  intro a w hst
  cases draw with
  | false =>
    obtain ⟨c,hr,hd,g,hu⟩:=hst
    refine wp_region_list (AiM ops s H N st s' H' N' (AhU h1) htr ?_ c a w hr hd g hu)
    intro c' a' w' hr' hd' g' hu'
    exact ⟨s',H',N',hq,c',hr',hd',g',hu'⟩
  | true =>
    simp only [Bool.not_true,Bool.false_or] at hio
    obtain ⟨c,hr,hd,g,hu⟩:=hst.draw (w' := { w with drawn:=w.drawn+1 }) rfl rfl rfl rfl
    refine wp_region_any hm ?_
    simp only [List.size_toArray]
    have hE : ∀ k,k<ops.length→Aay (Array.replicate ops.length false) k=false:=by
      intro k hk; simp [Aay,Array.getD,hk]
    have hcnt : ∀ m,m≤ops.length→cnt (Aay (Array.replicate ops.length false)) m=0:=by
      intro m
      induction m with
      | zero=>intro _; rfl
      | succ m ih=>intro hm; simp [cnt,ih (by omega),hE m (by omega)]
    obtain ⟨t1,t2,t3,t4,t5⟩:=ArK ops s H N st s' H' N' htr
    have hNN:=Afz t1 t5 0 ops.length (by omega) (Nat.le_refl _)
    rw [t4] at hNN
    refine AnZ h1 h2 h3 hio htr (c0:=c0) (w0:=w0) (df:=[]) ?_ ops.length _ c a _ (by simp) (by rw [hcnt _ (Nat.le_refl _)]; omega) ?_
    · intro c' a' w' hr' hd' g' hu'
      exact ⟨s',H',N',hq,c',hr',hd',g',hu'⟩
    · refine ⟨?_,hd,g,?_,fun i hi=>hu i (by simp only [stN] at hNN; omega),?_⟩
      · have e1 : (fun t=>AgK (s t) (fun k=>(ops[k]?.bind (·.dst))==some t) (fun k=>(st[k]?.map (·.x)).getD .undef) (Aay (Array.replicate ops.length false)) ops.length)=s:=by
          funext t
          rw [Adr _ _ _ _ 0 ops.length (by omega) (fun k _ hk _=>hE k hk)]; rfl
        have e2 : (fun id=>AgK (H id) (fun k=>((st[k]?.map (·.W)).getD []).contains id) (fun k=>stH st H (k+1) id) (Aay (Array.replicate ops.length false)) ops.length)=H:=by
          funext t
          rw [Adr _ _ _ _ 0 ops.length (by omega) (fun k _ hk _=>hE k hk)]; rfl
        rw [e1,e2]; exact hr
      · intro i t ht hi id k1 k2
        have hil : i<ops.length:=by have:=(List.getElem?_eq_some_iff.1 ht).1; omega
        have A:=(t5 i ops[i] t (by simp [hil]) ht).wn id k1
        have:=Afz t1 t5 0 i (by omega) (by omega)
        simp only [stN] at this
        exact hu id (by have:=A.2 k2; omega)
      · intro j o' hj hjE
        have hjl : j<ops.length:=(List.getElem?_eq_some_iff.1 hj).1
        rw [hE j hjl] at hjE; cases hjE
end
end
end Go.Abs
set_option linter.unusedVariables false
set_option linter.unusedSimpArgs false
namespace Go.Abs
noncomputable section

inductive Out where
  | nrm (l : SL) (h : HL)
  | ext (i : Nat) (l : SL) (h : HL)
  | ret (r : AV) (O : HL)

def Out.seq (o : Option Out) (f : SL→HL→Option Out) : Option Out:=match o with
  | some (.nrm l h)=>f l h
  | o=>o
def Out.blk (i : Nat) : Option Out→Option Out
  | some (.ext j l h)=>if j=i then some (.nrm l h) else some (.ext j l h)
  | o=>o
def Avj (P : Program) (call : AeT) (lit mk : Bool) (n : Nat) (ops : List Oper) (draw : Bool) (l : SL) (h : HL) : Option Out :=
  match AwU n ops with
  | true=>match Avl P call lit mk ops ops l h with
    | some q=>match (!draw||Abi ops q.2.2) with
      | true=>some (.nrm q.1 q.2.1)
      | false=>none
    | none=>none
  | false=>none
def evC (P : Program) (call : AeT) (lit mk : Bool) (n : Nat) (fin : SL→HL→Option (AV×HL)) : Nat→Code→SL→HL→Option Out
  | 0,_,_,_=>none
  | k+1,c,l,h=>match c with
    | .skip=>some (.nrm l h)
    | .label _=>some (.nrm l h)
    | .exit i=>some (.ext i l h)
    | .ret=>match fin l h with
      | some q=>some (.ret q.1 q.2)
      | none=>none
    | .region _ ops draw=>Avj P call lit mk n ops.toList draw l h
    | .seq x y=>Out.seq (evC P call lit mk n fin k x l h) fun l h=>evC P call lit mk n fin k y l h
    | .cond (.tmp t) x y=>match decide (t<n) with
      | true=>match slF l t with
        | .bool true=>evC P call lit mk n fin k x l h
        | .bool false=>evC P call lit mk n fin k y l h
        | _=>none
      | false=>none
    | .cond (.const (.bool b)) x y=>match b with
      | true=>evC P call lit mk n fin k x l h
      | false=>evC P call lit mk n fin k y l h
    | .block i c=>Out.blk i (evC P call lit mk n fin k c l h)
    | .loop c=>Out.seq (evC P call lit mk n fin k c l h) fun l h=>evC P call lit mk n fin k (.loop c) l h
    | .scope c=>evC P call lit mk n fin k c l h
    | _=>none

section
variable {P : Program} {n : Nat} {c0 : Cx} {w0 : World}

def Aq8 (Q : AcH) (r0 : AV) (O0 : HL) : Out→Prop
  | .nrm l h=>Q .normal (slF l) (hpF h) h.length
  | .ext i l h=>Q (.exit i) (slF l) (hpF h) h.length
  | .ret r O=>r=r0∧O=O0

theorem Aq8.then {Q : AcH} {r0 : AV} {O0 : HL} {o : Out} {K : (Nat→AV)→Aac→Nat→Prop} (hn : ∀ l h,o ≠ .nrm l h) (g : Aq8 Q r0 O0 o) : Aq8 (AcH.then K Q) r0 O0 o:=by
  cases o with
  | nrm l h=>exact absurd rfl (hn l h)
  | ext i l h=>exact g
  | ret r O=>exact g

theorem Asj {call : AeT} {lit mk : Bool} {fin : SL→HL→Option (AV×HL)} {r0 : AV} {O0 : HL} (R : (Nat→AV)→Aac→Nat→Prop) (hm : P.follows .mixedOrders=true) (hcall : AeQ P call)
    (hfin : ∀ l h,fin l h=some (r0,O0)→∀ Q : AcH,(∀ s H N,R s H N→Q .ret s H N)→AW P n c0 w0 .ret Q (slF l) (hpF h) h.length) :
    ∀ (k : Nat) (c : Code) (l : SL) (h : HL) (out : Out) (Q : AcH),evC P call lit mk n fin k c l h=some out→Aq8 Q r0 O0 out→(∀ s H N,R s H N→Q .ret s H N) →
      AW P n c0 w0 c Q (slF l) (hpF h) h.length∧∀ c',c = .loop c'→∃ m,Can n c0 w0 (slF l) (hpF h) h.length (Code.rounds P c' (Q.real n c0 w0) m)
  | 0,_,_,_,_,_,e,_,_=>by cases e
  | k+1,c,l,h,out,Q,e,g,hr=>by
    have ih:=Asj (lit:=lit) (mk:=mk) R hm hcall hfin k
    cases c with
    | skip=>cases e; exact ⟨AW.skip g,fun _ h=>by cases h⟩
    | label _=>cases e; exact ⟨AW.label g,fun _ h=>by cases h⟩
    | exit i=>cases e; exact ⟨AW.exit g,fun _ h=>by cases h⟩
    | ret =>
      refine ⟨?_,fun _ h=>by cases h⟩
      simp only [evC] at e
      split at e
      · rename_i q hq
        cases e
        obtain ⟨g1,g2⟩:=g
        refine hfin l h ?_ Q hr
        rw [hq,← g1,← g2]
      · cases e
    | region id ops draw =>
      refine ⟨?_,fun _ h=>by cases h⟩
      simp only [evC,Avj] at e
      split at e
      · rename_i hreg
        split at e
        · rename_i q hq
          split at e
          · rename_i hio
            cases e
            have h4 : ∀ o ∈ ops.toList,AaY o=true:=by
              simp only [AwU,Bool.and_eq_true] at hreg
              exact fun o ho=>List.all_eq_true.1 hreg.2 o ho
            obtain ⟨st,k1,k2⟩:=AnO hcall ops.toList l h q h4 hq
            have:=AW.regionT (n:=n) (c0:=c0) (w0:=w0) (Q:=Q) (id:=id) (draw:=draw) hm hreg k1 (by rw [← k2]; exact hio) g
            simpa using this
          · cases e
        · cases e
      · cases e
    | seq x y =>
      refine ⟨?_,fun _ h=>by cases h⟩
      simp only [evC] at e
      refine AW.seq fun K hK=>?_
      cases hx : evC P call lit mk n fin k x l h with
      | none=>rw [hx] at e; cases e
      | some o =>
        rw [hx] at e
        cases o with
        | nrm l1 h1 =>
          simp only [Out.seq] at e
          exact (ih x l h _ (AcH.then K Q) hx (hK _ _ _ (ih y l1 h1 out Q e g hr).1) hr).1
        | ext i l1 h1=>cases e; exact (ih x l h _ (AcH.then K Q) hx (Aq8.then (fun _ _ h=>by cases h) g) hr).1
        | ret r O=>cases e; exact (ih x l h _ (AcH.then K Q) hx (Aq8.then (fun _ _ h=>by cases h) g) hr).1
    | cond op x y =>
      refine ⟨?_,fun _ h=>by cases h⟩
      cases op with
      | tmp t =>
        simp only [evC] at e
        split at e
        · rename_i ht
          split at e
          · rename_i hb; exact AW.condT ht hb (ih x l h out Q e g hr).1
          · rename_i hb; exact AW.condF ht hb (ih y l h out Q e g hr).1
          · cases e
        · cases e
      | const v =>
        cases v with
        | bool b =>
          simp only [evC] at e
          cases b with
          | true=>exact AW.condCT (ih x l h out Q e g hr).1
          | false=>exact AW.condCF (ih y l h out Q e g hr).1
        | _=>cases e
      | global _=>cases e
      | func _=>cases e
    | block i c =>
      refine ⟨?_,fun _ h=>by cases h⟩
      simp only [evC] at e
      refine AW.block ?_
      cases hx : evC P call lit mk n fin k c l h with
      | none=>rw [hx] at e; cases e
      | some o =>
        rw [hx] at e
        cases o with
        | nrm l1 h1=>cases e; exact (ih c l h _ (AcH.inBlock i Q) hx g hr).1
        | ext j l1 h1 =>
          simp only [Out.blk] at e
          refine (ih c l h _ (AcH.inBlock i Q) hx ?_ hr).1
          split at e
          · rename_i hj; cases e; simp only [Aq8,AcH.inBlock,hj,if_true]; exact g
          · rename_i hj; cases e; simp only [Aq8,AcH.inBlock,hj,if_false]; exact g
        | ret r O=>cases e; exact (ih c l h _ (AcH.inBlock i Q) hx g hr).1
    | loop c =>
      have key : ∃ m,Can n c0 w0 (slF l) (hpF h) h.length (Code.rounds P c (Q.real n c0 w0) m):=by
        simp only [evC] at e
        cases hx : evC P call lit mk n fin k c l h with
        | none=>rw [hx] at e; cases e
        | some o =>
          rw [hx] at e
          cases o with
          | nrm l1 h1 =>
            simp only [Out.seq] at e
            obtain ⟨m,hm'⟩:=(ih (.loop c) l1 h1 out Q e g hr).2 c rfl
            exact ⟨m+1,Can.round fun K hK=>(ih c l h _ (AcH.then K Q) hx (hK _ _ _ hm') hr).1⟩
          | ext i l1 h1=>cases e; exact ⟨0+1,Can.round fun K hK=>(ih c l h _ (AcH.then K Q) hx (Aq8.then (fun _ _ h=>by cases h) g) hr).1⟩
          | ret r O=>cases e; exact ⟨0+1,Can.round fun K hK=>(ih c l h _ (AcH.then K Q) hx (Aq8.then (fun _ _ h=>by cases h) g) hr).1⟩
      refine ⟨?_,fun c' hc=>by cases hc; exact key⟩
      obtain ⟨m,hm'⟩:=key
      exact AW.rounds m hm'
    | scope c =>
      refine ⟨?_,fun _ h=>by cases h⟩
      simp only [evC] at e
      refine AW.scope ?_
      refine (ih c l h out (AcH.noGoto Q) e ?_ hr).1
      cases out <;> exact g
    | rangeFunc _ _ _ _=>cases e
    | goto _=>cases e
    | refuse _=>cases e
end
end
end Go.Abs
set_option linter.unusedVariables false
set_option linter.unusedSimpArgs false
namespace Go.Abs

mutual
def noB : AV→Bool
  | .ptr _ _=>false
  | .slc _ _ _ _ _=>false
  | .map _=>false
  | .agg cs=>Ajo cs
  | .tup cs=>Ajo cs
  | .fn _ cs=>Ajo cs
  | .ifc _ x=>noB x
  | .lst _ _ xs=>Ajo xs
  | .cptr cs=>Ajo cs
  | .nn x=>noB x
  | .rm x=>noB x
  | .undef=>true
  | .skip=>true
  | .bool _=>true
  | .int _ _=>true
  | .str _=>true
  | .nilptr=>true
  | .nilfn=>true
  | .nilmap=>true
  | .nilifc=>true
def Ajo : List AV→Bool
  | []=>true
  | x::xs=>noB x&&Ajo xs
end
mutual
theorem Anw : ∀ (x : AV),noB x=true→idsIn (fun _=>False) x
  | .ptr _ _,e=>by cases e
  | .slc _ _ _ _ _,e=>by cases e
  | .map _,e=>by cases e
  | .agg cs,e=>by simp only [noB] at e; simp only [idsIn]; exact AeJ cs e
  | .tup cs,e=>by simp only [noB] at e; simp only [idsIn]; exact AeJ cs e
  | .fn _ cs,e=>by simp only [noB] at e; simp only [idsIn]; exact AeJ cs e
  | .ifc _ x,e=>by simp only [noB] at e; simp only [idsIn]; exact Anw x e
  | .lst _ _ xs,e=>by simp only [noB] at e; simp only [idsIn]; exact AeJ xs e
  | .cptr cs,e=>by simp only [noB] at e; simp only [idsIn]; exact AeJ cs e
  | .nn x,e=>by simp only [noB] at e; simp only [idsIn]; exact Anw x e
  | .rm x,e=>by simp only [noB] at e; simp only [idsIn]; exact Anw x e
  | .undef,_=>by simp [idsIn]
  | .skip,_=>by simp [idsIn]
  | .bool _,_=>by simp [idsIn]
  | .int _ _,_=>by simp [idsIn]
  | .str _,_=>by simp [idsIn]
  | .nilptr,_=>by simp [idsIn]
  | .nilfn,_=>by simp [idsIn]
  | .nilmap,_=>by simp [idsIn]
  | .nilifc,_=>by simp [idsIn]
theorem AeJ : ∀ (xs : List AV),Ajo xs=true→AbP (fun _=>False) xs
  | [],_=>by simp [AbP]
  | x::xs,e=>by
    simp only [Ajo,Bool.and_eq_true] at e
    simp only [AbP]
    exact ⟨Anw x e.1,AeJ xs e.2⟩
end
mutual
def gdB (q : Nat→Bool) : AV→Bool
  | .ptr id _=>q id
  | .slc id _ _ _ _=>q id
  | .map id=>q id
  | .agg cs=>Ajw q cs
  | .tup cs=>Ajw q cs
  | .fn _ cs=>Ajw q cs
  | .ifc _ x=>gdB q x
  | .lst _ _ xs=>Ajo xs
  | .cptr cs=>Ajo cs
  | .nn x=>gdB q x
  | .rm x=>gdB q x
  | .undef=>true
  | .skip=>true
  | .bool _=>true
  | .int _ _=>true
  | .str _=>true
  | .nilptr=>true
  | .nilfn=>true
  | .nilmap=>true
  | .nilifc=>true
def Ajw (q : Nat→Bool) : List AV→Bool
  | []=>true
  | x::xs=>gdB q x&&Ajw q xs
end
section
variable {q : Nat→Bool} {S : Nat→Prop} {σ τ : Nat→Nat}
mutual
theorem AdI (hS : ∀ id,q id=true→S (τ id)) (hσ : ∀ id,q id=true→σ (τ id)=id) : ∀ (x : AV),gdB q x=true→ren σ (ren τ x)=x∧gd S (ren τ x)
  | .ptr id _,e=>by simp only [gdB] at e; simp only [ren,gd]; exact ⟨by rw [hσ id e],hS id e⟩
  | .slc id _ _ _ _,e=>by simp only [gdB] at e; simp only [ren,gd]; exact ⟨by rw [hσ id e],hS id e⟩
  | .map id,e=>by simp only [gdB] at e; simp only [ren,gd]; exact ⟨by rw [hσ id e],hS id e⟩
  | .agg cs,e=>by simp only [gdB] at e; simp only [ren,gd]; exact ⟨by rw [(Ac4 hS hσ cs e).1],(Ac4 hS hσ cs e).2⟩
  | .tup cs,e=>by simp only [gdB] at e; simp only [ren,gd]; exact ⟨by rw [(Ac4 hS hσ cs e).1],(Ac4 hS hσ cs e).2⟩
  | .fn _ cs,e=>by simp only [gdB] at e; simp only [ren,gd]; exact ⟨by rw [(Ac4 hS hσ cs e).1],(Ac4 hS hσ cs e).2⟩
  | .ifc _ x,e=>by simp only [gdB] at e; simp only [ren,gd]; exact ⟨by rw [(AdI hS hσ x e).1],(AdI hS hσ x e).2⟩
  | .nn x,e=>by simp only [gdB] at e; simp only [ren,gd]; exact ⟨by rw [(AdI hS hσ x e).1],(AdI hS hσ x e).2⟩
  | .rm x,e=>by simp only [gdB] at e; simp only [ren,gd]; exact ⟨by rw [(AdI hS hσ x e).1],(AdI hS hσ x e).2⟩
  | .lst _ _ xs,e=>by simp only [gdB] at e; simp only [ren,gd]; exact ⟨trivial,AeJ xs e⟩
  | .cptr cs,e=>by simp only [gdB] at e; simp only [ren,gd]; exact ⟨trivial,AeJ cs e⟩
  | .undef,_=>by simp [ren,gd]
  | .skip,_=>by simp [ren,gd]
  | .bool _,_=>by simp [ren,gd]
  | .int _ _,_=>by simp [ren,gd]
  | .str _,_=>by simp [ren,gd]
  | .nilptr,_=>by simp [ren,gd]
  | .nilfn,_=>by simp [ren,gd]
  | .nilmap,_=>by simp [ren,gd]
  | .nilifc,_=>by simp [ren,gd]
theorem Ac4 (hS : ∀ id,q id=true→S (τ id)) (hσ : ∀ id,q id=true→σ (τ id)=id) : ∀ (xs : List AV),Ajw q xs=true→AdP σ (AdP τ xs)=xs∧gdL S (AdP τ xs)
  | [],_=>by simp [AdP,gdL]
  | x::xs,e=>by
    simp only [Ajw,Bool.and_eq_true] at e
    simp only [AdP,gdL]
    exact ⟨by rw [(AdI hS hσ x e.1).1,(Ac4 hS hσ xs e.2).1],(AdI hS hσ x e.1).2,(Ac4 hS hσ xs e.2).2⟩
end
mutual
theorem Ai2 (hS : ∀ id,q id=true→S id) : ∀ (x : AV),gdB q x=true→gd S x
  | .ptr id _,e=>by simp only [gdB] at e; simp only [gd]; exact hS id e
  | .slc id _ _ _ _,e=>by simp only [gdB] at e; simp only [gd]; exact hS id e
  | .map id,e=>by simp only [gdB] at e; simp only [gd]; exact hS id e
  | .agg cs,e=>by simp only [gdB] at e; simp only [gd]; exact Agg hS cs e
  | .tup cs,e=>by simp only [gdB] at e; simp only [gd]; exact Agg hS cs e
  | .fn _ cs,e=>by simp only [gdB] at e; simp only [gd]; exact Agg hS cs e
  | .ifc _ x,e=>by simp only [gdB] at e; simp only [gd]; exact Ai2 hS x e
  | .nn x,e=>by simp only [gdB] at e; simp only [gd]; exact Ai2 hS x e
  | .rm x,e=>by simp only [gdB] at e; simp only [gd]; exact Ai2 hS x e
  | .lst _ _ xs,e=>by simp only [gdB] at e; simp only [gd]; exact AeJ xs e
  | .cptr cs,e=>by simp only [gdB] at e; simp only [gd]; exact AeJ cs e
  | .undef,_=>by simp [gd]
  | .skip,_=>by simp [gd]
  | .bool _,_=>by simp [gd]
  | .int _ _,_=>by simp [gd]
  | .str _,_=>by simp [gd]
  | .nilptr,_=>by simp [gd]
  | .nilfn,_=>by simp [gd]
  | .nilmap,_=>by simp [gd]
  | .nilifc,_=>by simp [gd]
theorem Agg (hS : ∀ id,q id=true→S id) : ∀ (xs : List AV),Ajw q xs=true→gdL S xs
  | [],_=>by simp [gdL]
  | x::xs,e=>by
    simp only [Ajw,Bool.and_eq_true] at e
    simp only [gdL]
    exact ⟨Ai2 hS x e.1,Agg hS xs e.2⟩
end
def Ase (q : Nat→Bool) : AaZ→Bool
  | .cells cs=>Ajw q cs
  | .grow cs=>Ajw q cs
  | .mp es=>es.all fun p=>gdB q p.1&&gdB q p.2
  | .it _ _=>true
theorem Ap9 (hS : ∀ id,q id=true→S id) {o : AaZ} (e : Ase q o=true) : gdO S o:=by
  cases o with
  | cells cs=>exact Agg hS cs e
  | grow cs=>exact Agg hS cs e
  | mp es =>
    intro p hp
    have:=List.all_eq_true.1 e p hp
    simp only [Bool.and_eq_true] at this
    exact ⟨Ai2 hS _ this.1,Ai2 hS _ this.2⟩
  | it _ _=>trivial
theorem An8 (hS : ∀ id,q id=true→S (τ id)) (hσ : ∀ id,q id=true→σ (τ id)=id) {o : AaZ} (e : Ase q o=true) : AeR σ (AeR τ o)=o∧gdO S (AeR τ o):=by
  cases o with
  | cells cs=>simp only [AeR,gdO]; exact ⟨by rw [(Ac4 hS hσ cs e).1],(Ac4 hS hσ cs e).2⟩
  | grow cs=>simp only [AeR,gdO]; exact ⟨by rw [(Ac4 hS hσ cs e).1],(Ac4 hS hσ cs e).2⟩
  | mp es =>
    have h1:=fun p hp=>by
      have:=List.all_eq_true.1 e p hp
      simpa only [Bool.and_eq_true] using this
    constructor
    · simp only [AeR,AaZ.mp.injEq,List.map_map]
      conv=>rhs; rw [← List.map_id es]
      refine List.map_congr_left fun p hp=>?_
      simp only [Function.comp_apply,id_eq]
      rw [(AdI hS hσ p.1 (h1 p hp).1).1,(AdI hS hσ p.2 (h1 p hp).2).1]
    · simp only [AeR,gdO]
      intro p hp
      obtain ⟨p0,hp0,rfl⟩:=List.mem_map.1 hp
      exact ⟨(AdI hS hσ p0.1 (h1 p0 hp0).1).2,(AdI hS hσ p0.2 (h1 p0 hp0).2).2⟩
  | it _ _=>exact ⟨rfl,trivial⟩
end

mutual
def Aot : AV→List Nat→List Nat
  | .ptr id _,acc=>if acc.contains id then acc else acc++[id]
  | .slc id _ _ _ _,acc=>if acc.contains id then acc else acc++[id]
  | .map id,acc=>if acc.contains id then acc else acc++[id]
  | .agg cs,acc=>Afn cs acc
  | .tup cs,acc=>Afn cs acc
  | .fn _ cs,acc=>Afn cs acc
  | .ifc _ x,acc=>Aot x acc
  | .nn x,acc=>Aot x acc
  | .rm x,acc=>Aot x acc
  | .lst _ _ _,acc=>acc
  | .cptr _,acc=>acc
  | .undef,acc=>acc
  | .skip,acc=>acc
  | .bool _,acc=>acc
  | .int _ _,acc=>acc
  | .str _,acc=>acc
  | .nilptr,acc=>acc
  | .nilfn,acc=>acc
  | .nilmap,acc=>acc
  | .nilifc,acc=>acc
def Afn : List AV→List Nat→List Nat
  | [],acc=>acc
  | x::xs,acc=>Afn xs (Aot x acc)
end
def Avc : AaZ→List Nat→List Nat
  | .cells cs,acc=>Afn cs acc
  | .grow cs,acc=>Afn cs acc
  | .mp es,acc=>es.foldl (fun acc p=>Aot p.2 (Aot p.1 acc)) acc
  | .it _ _,acc=>acc
section
variable {q : Nat→Bool} {σ : Nat→Nat}
mutual
theorem AfO : ∀ (x : AV),noB x=true→ren σ x=x∧gdB q x=true
  | .ptr _ _,e=>by cases e
  | .slc _ _ _ _ _,e=>by cases e
  | .map _,e=>by cases e
  | .agg cs,e=>by simp only [noB] at e; simp only [ren,gdB]; exact ⟨by rw [(AdF cs e).1],(AdF cs e).2⟩
  | .tup cs,e=>by simp only [noB] at e; simp only [ren,gdB]; exact ⟨by rw [(AdF cs e).1],(AdF cs e).2⟩
  | .fn _ cs,e=>by simp only [noB] at e; simp only [ren,gdB]; exact ⟨by rw [(AdF cs e).1],(AdF cs e).2⟩
  | .ifc _ x,e=>by simp only [noB] at e; simp only [ren,gdB]; exact ⟨by rw [(AfO x e).1],(AfO x e).2⟩
  | .nn x,e=>by simp only [noB] at e; simp only [ren,gdB]; exact ⟨by rw [(AfO x e).1],(AfO x e).2⟩
  | .rm x,e=>by simp only [noB] at e; simp only [ren,gdB]; exact ⟨by rw [(AfO x e).1],(AfO x e).2⟩
  | .lst _ _ xs,e=>by simp only [noB] at e; simp only [ren,gdB]; exact ⟨trivial,e⟩
  | .cptr cs,e=>by simp only [noB] at e; simp only [ren,gdB]; exact ⟨trivial,e⟩
  | .undef,_=>by simp [ren,gdB]
  | .skip,_=>by simp [ren,gdB]
  | .bool _,_=>by simp [ren,gdB]
  | .int _ _,_=>by simp [ren,gdB]
  | .str _,_=>by simp [ren,gdB]
  | .nilptr,_=>by simp [ren,gdB]
  | .nilfn,_=>by simp [ren,gdB]
  | .nilmap,_=>by simp [ren,gdB]
  | .nilifc,_=>by simp [ren,gdB]
theorem AdF : ∀ (xs : List AV),Ajo xs=true→AdP σ xs=xs∧Ajw q xs=true
  | [],_=>by simp [AdP,Ajw]
  | x::xs,e=>by
    simp only [Ajo,Bool.and_eq_true] at e
    simp only [AdP,Ajw,Bool.and_eq_true]
    exact ⟨by rw [(AfO x e.1).1,(AdF xs e.2).1],(AfO x e.1).2,(AdF xs e.2).2⟩
end
end
def renF (σ : Nat→Nat) (x : AV) : AV:=match noB x with
  | true=>x
  | false=>ren σ x
theorem Amw : @renF = @ren:=by
  funext σ x
  unfold renF
  split
  · rename_i h; exact (AfO (q:=fun _=>true) x h).1.symm
  · rfl
def As7 (σ : Nat→Nat) (xs : List AV) : List AV:=xs.map (renF σ)
theorem ArS : @As7 = @AdP:=by
  funext σ xs
  unfold As7
  rw [Amw]
  induction xs with
  | nil=>rfl
  | cons x xs ih=>simp [AdP,ih]
def Amv (σ : Nat→Nat) : AaZ→AaZ
  | .cells cs=>match Ajo cs with
    | true => .cells cs
    | false => .cells (AdP σ cs)
  | .grow cs=>match Ajo cs with
    | true => .grow cs
    | false => .grow (AdP σ cs)
  | .mp es => .mp (es.map fun p=>(ren σ p.1,ren σ p.2))
  | .it s p => .it s p
theorem Akg : @Amv = @AeR:=by
  funext σ o
  cases o with
  | cells cs =>
    simp only [Amv,AeR]
    split
    · rename_i h; rw [(AdF (q:=fun _=>true) cs h).1]
    · rfl
  | grow cs =>
    simp only [Amv,AeR]
    split
    · rename_i h; rw [(AdF (q:=fun _=>true) cs h).1]
    · rfl
  | mp es=>rfl
  | it _ _=>rfl
def gdF (q : Nat→Bool) (x : AV) : Bool:=match noB x with
  | true=>true
  | false=>gdB q x
theorem Asg : @gdF = @gdB:=by
  funext q x
  unfold gdF
  split
  · rename_i h; exact (AfO (σ:=id) x h).2.symm
  · rfl
def Axh (q : Nat→Bool) (xs : List AV) : Bool:=xs.all (gdF q)
theorem Atb : @Axh = @Ajw:=by
  funext q xs
  unfold Axh
  rw [Asg]
  induction xs with
  | nil=>rfl
  | cons x xs ih=>simp only [List.all_cons,Ajw,ih]
def Awj (q : Nat→Bool) : AaZ→Bool
  | .cells cs=>match Ajo cs with
    | true=>true
    | false=>Ajw q cs
  | .grow cs=>match Ajo cs with
    | true=>true
    | false=>Ajw q cs
  | .mp es=>es.all fun p=>gdB q p.1&&gdB q p.2
  | .it _ _=>true
theorem Ap8 : @Awj = @Ase:=by
  funext q o
  cases o with
  | cells cs =>
    simp only [Awj,Ase]
    split
    · rename_i h; exact (AdF (σ:=id) cs h).2.symm
    · rfl
  | grow cs =>
    simp only [Awj,Ase]
    split
    · rename_i h; exact (AdF (σ:=id) cs h).2.symm
    · rfl
  | mp es=>rfl
  | it _ _=>rfl
def Axd (o : AaZ) (acc : List Nat) : List Nat:=match o with
  | .cells cs=>match Ajo cs with
    | true=>acc
    | false=>Afn cs acc
  | .grow cs=>match Ajo cs with
    | true=>acc
    | false=>Afn cs acc
  | o=>Avc o acc
def AlZ (h : HL) : Nat→Nat→List Nat→List Nat
  | 0,_,acc=>acc
  | k+1,i,acc=>match acc[i]? with
    | some id=>match hpF h id with
      | some o=>AlZ h k (i+1) (Axd o acc)
      | none=>AlZ h k (i+1) acc
    | none=>acc
end Go.Abs
