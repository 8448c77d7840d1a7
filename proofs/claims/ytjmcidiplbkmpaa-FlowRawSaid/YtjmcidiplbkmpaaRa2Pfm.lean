/- Plain laws: greatest flows of the program. -/
import Derived.Test.YtjmcidiplbkmpaaRa2Pfs
set_option linter.unusedVariables false
set_option linter.unusedSimpArgs false
namespace Go.TF
open Go Go.Abs
theorem lk_at {V W : Vs} {t : Int} {s : Mf.Step} (h : t ∉ W.map (·.1)) : lk (W ++ (t, s) :: V) t = some s := by
 induction W with
 | nil => simp [lk]
 | cons p W ih =>
  obtain ⟨w, q⟩ := p
  simp only [List.map_cons, List.mem_cons, not_or] at h
  rw [List.cons_append, lk, if_neg h.1, ih h.2]
theorem disc_tail {A : List Mf.Arc} {f : List Int} : ∀ {W V : Vs}, Mf.Disc A f (W ++ V) → Mf.Disc A f V
 | [], _, h => h
 | (w, s) :: W, V, h => disc_tail (W := W) h.2.2.2.2.2.2
theorem mn (a b : Int) : (if a < b then a else b) ≤ a ∧ (if a < b then a else b) ≤ b := by split <;> omega
theorem push_L2 (k N : Nat) (A : List api_Arc) (f : List Int) (h : NV N A) (hf : FB A f) (cm : List (Int × flow_step)) (V : Vs) (hc : Cm cm V) (hd : Mf.Disc (ar A) f V) : ∀ (V' W : Vs) (n : Nat) (t most : Int) (acc : List flow_step), V = W ++ V' → V'.length < n → (t = 0 ∨ t ∈ V'.map (·.1)) → 1 ≤ most → acc.length + V'.length ≤ 1000 →
 ∃ most', flow_residual_push.L2 k (N : Int) A f (stps N A) cm n most t acc = flow_residual_push.L4 k most' (acc ++ (Mf.pathOf (ar A) V' t).map cvS) k 0 f ∧ most' ≤ most ∧ 1 ≤ most' ∧ ∀ s ∈ Mf.pathOf (ar A) V' t, most' ≤ Mf.room (ar A) f s
 | [], W, n + 1, t, most, acc, e, hn, ht, hm, _ => by
  rcases ht with rfl | ht
  ·rw [flow_residual_push.L2, if_neg (by simp)]
   exact ⟨most, by simp [Mf.pathOf], by omega, hm, by simp [Mf.pathOf]⟩
  ·simp at ht
 | (v, s) :: V', W, n, t, most, acc, e, hn, ht, hm, ha => by
  have hd' : Mf.Disc (ar A) f ((v, s) :: V') := disc_tail (e ▸ hd)
  by_cases t0 : t = 0
  ·subst t0
   cases n with
   | zero => omega
   | succ n =>
    rw [flow_residual_push.L2, if_neg (by simp), Mf.pathOf_zero hd']
    exact ⟨most, by simp, by omega, hm, by simp⟩
  ·by_cases tv : t = v
   ·subst tv
    cases n with
    | zero => omega
    | succ n =>
     have hnd := (Mf.disc_nodup hd).1
     rw [e, List.map_append, List.map_cons] at hnd
     have hw : t ∉ W.map (·.1) := fun q => (List.nodup_append.1 hnd).2.2 t q t (by simp) rfl
     have hg := hc t
     rw [if_neg t0, e, lk_at hw] at hg
     obtain ⟨h1, h2, h3, h4, h5, h6, h7⟩ := hd'
     rw [ar_len] at h3
     have ok := h.ok _ (List.getElem_mem h3)
     rw [flow_residual_push.L2, if_pos t0, hg]
     show ∃ most', flow_residual_push.J3 _ _ _ _ _ _ _ _ _ _ = _ ∧ _
     unfold flow_residual_push.J3
     rw [room_eq k N A f _ h hf s h3, bnd2_some, chk_pos (by simp only [List.length_cons, List.length_nil] at ha ⊢; omega), let1_eq]
     have m1 := mn (Mf.room (ar A) f s) most
     have hr : 1 ≤ (if Mf.room (ar A) f s < most then Mf.room (ar A) f s else most) := by split <;> omega
     obtain ⟨most', g1, g2, g3, g4⟩ := push_L2 k N A f h hf cm V hc hd V' (W ++ [(t, s)]) n (Mf.stFr (ar A) s) (if Mf.room (ar A) f s < most then Mf.room (ar A) f s else most) (acc ++ [cvS s]) (by rw [e]; simp) (by simp only [List.length_cons] at hn; omega) h5 hr (by simp only [List.length_append, List.length_cons, List.length_nil] at ha ⊢; omega)
     have hp : Mf.pathOf (ar A) ((t, s) :: V') t = s :: Mf.pathOf (ar A) V' (Mf.stFr (ar A) s) := by rw [Mf.pathOf, if_pos rfl]
     have fin : flow_residual_push.L2 k (N : Int) A f (stps N A) cm n (if Mf.room (ar A) f s < most then Mf.room (ar A) f s else most) (Mf.stFr (ar A) s) (acc ++ [cvS s]) = flow_residual_push.L4 k most' (acc ++ (Mf.pathOf (ar A) ((t, s) :: V') t).map cvS) k 0 f := by
      rw [g1, hp]; simp
     refine ⟨most', ?_, by omega, g3, ?_⟩
     ·rw [← fin]
      show idx A (s.1 : Int) _ = _
      rw [idx_pos h3]
      have e1 : (flow_step.mk (cvS s).arc (cvS s).back) = cvS s := rfl
      rw [e1]
      show (if s.2 = true then _ else _) = _
      unfold Mf.stFr
      rw [ar_arc h3]
      cases s.2 <;> simp
     ·rw [hp]; intro x hx
      rcases List.mem_cons.1 hx with rfl | hx
      ·omega
      ·exact g4 x hx
   ·have hp : Mf.pathOf (ar A) ((v, s) :: V') t = Mf.pathOf (ar A) V' t := by rw [Mf.pathOf, if_neg tv]
    rw [hp]
    exact push_L2 k N A f h hf cm V hc hd V' (W ++ [(v, s)]) n t most acc (by rw [e]; simp) (by simp only [List.length_cons] at hn; omega) (by
     rcases ht with ht | ht
     ·exact .inl ht
     ·simp only [List.map_cons, List.mem_cons] at ht
      rcases ht with ht | ht
      ·exact absurd ht tv
      ·exact .inr ht) hm (by simp only [List.length_cons] at ha; omega)
theorem push_L4 (k : Nat) (A : List api_Arc) (f : List Int) (hf : FB A f) (hA : ∀ a ∈ A, 0 ≤ a.Cap ∧ a.Cap ≤ 1048576) (most : Int) (hm : 1 ≤ most) (P : List Mf.Step) (hP : ∀ s ∈ P, s.1 < A.length ∧ most ≤ Mf.room (ar A) f s) (hn : (P.map (·.1)).Nodup) (h9 : P.length ≤ 100000) : ∀ (m i n : Nat), i + m = P.length → m < n →
 flow_residual_push.L4 k most (P.map cvS) n (i : Int) (Mf.push f most (P.take i)) = some (true, Mf.push f most P)
 | 0, i, n + 1, e, _ => by
  rw [flow_residual_push.L4, if_neg (by simp; omega), List.take_of_length_le (by omega)]
 | m + 1, i, n + 1, e, hn' => by
  have hi : i < P.length := by omega
  have hs := hP _ (List.getElem_mem hi)
  have hsf : P[i].1 < f.length := by rw [hf.len]; exact hs.1
  have ih := push_L4 k A f hf hA most hm P hP hn h9 m (i + 1) n (by omega) (by omega)
  have hpl := Mf.push_len most (P.take i) f
  have hg : (Mf.push f most (P.take i)).getD P[i].1 0 = f[P[i].1] := by
   rw [Mf.push_get most _ _ f (fun s hs' => by rw [hf.len]; exact (hP s (List.mem_of_mem_take hs')).1) (fun s hs' q => ?_), ← Mf.getD_getElem f 0 _ hsf]
   obtain ⟨j, hj, rfl⟩ := List.mem_iff_getElem.1 hs'
   rw [List.length_take] at hj
   rw [List.getElem_take] at q
   have := List.pairwise_iff_getElem.1 hn j i (by simp; omega) (by simp; omega) (by omega)
   simp only [List.getElem_map] at this
   exact this q
  have hlt : P[i].1 < (Mf.push f most (P.take i)).length := by rw [hpl]; exact hsf
  have hgg : (Mf.push f most (P.take i))[P[i].1] = f[P[i].1] := by rw [← hg]; exact Mf.getD_getElem _ 0 _ hlt
  have b1 := hf.lo _ hsf; have b2 := hf.hi _ hsf hs.1
  have cap := hA _ (List.getElem_mem hs.1)
  have e0 := Mf.getD_getElem f 0 _ hsf
  have nxt : Mf.push f most (P.take (i + 1)) = Mf.push1 (Mf.push f most (P.take i)) most P[i] := by
   rw [List.take_succ_eq_append_getElem hi]; unfold Mf.push; rw [List.foldl_append]; rfl
  rw [nxt] at ih
  unfold Mf.push1 at ih
  rw [hg] at ih
  rw [flow_residual_push.L4, if_pos (by simp; omega), idx_pos (by simpa using hi), List.getElem_map]
  have ea : (cvS P[i]).arc = (P[i].1 : Int) := rfl
  have eb : (cvS P[i]).back = P[i].2 := rfl
  unfold flow_residual_push.J5
  rw [ea, eb, sc64 i (by omega)]
  have hr := hs.2
  unfold Mf.room at hr
  rw [ar_arc hs.1, ← e0] at hr
  cases hb : P[i].2 with
  | true =>
   simp only [hb, if_true] at hr ih
   rw [if_pos rfl, chk_pos (by omega), idx_pos hlt, hgg, chk_pos (by omega), w64 (by omega) (by omega), show ((P[i].1 : Int)).toNat = P[i].1 by omega]
   rw [← ih]; congr 2
  | false =>
   simp only [hb, Bool.false_eq_true, if_false] at hr ih
   rw [if_neg (by simp), chk_pos (by omega), idx_pos hlt, hgg, chk_pos (by omega), w64 (by omega) (by omega), show ((P[i].1 : Int)).toNat = P[i].1 by omega]
   rw [← ih]
structure Done (N : Nat) (A : List api_Arc) (f : List Int) : Prop where
 fl : Mf.Flow N (ar A) f
 ex : ∃ V : Vs, Mf.Disc (ar A) f V ∧ Cpl (ar A) f V ∧ (1 : Int) ∉ V.map (·.1)
theorem rpush_eq (k N : Nat) (A : List api_Arc) (f : List Int) (h : NV N A) (hf : Mf.Flow N (ar A) f) (hk : 2 * A.length < k) (hk2 : N < k) :
 ∃ b f', flow_residual_push k (N : Int) A f (stps N A) = some (b, f') ∧ ((b = true ∧ Mf.Flow N (ar A) f' ∧ Mf.val (ar A) f + 1 ≤ Mf.val (ar A) f') ∨ (b = false ∧ f' = f ∧ Done N A f)) := by
 have fb := FB.of hf
 obtain ⟨cm, V, e, hd, hc, hcp⟩ := search_eq k N A f h fb hk hk2
 have hN := h.n130
 have hvl := disc_len h hd
 unfold flow_residual_push
 rw [e, bnd1_some]
 have h1 := hc 1
 rw [if_neg (by omega)] at h1
 by_cases hm : (1 : Int) ∈ V.map (·.1)
 ·cases hl : lk V 1 with
  | none => exact absurd hm (lk_none.1 hl)
  | some s =>
   rw [hl] at h1
   rw [h1]
   show ∃ b f', flow_residual_push.J1 _ _ _ _ _ _ _ = _ ∧ _
   unfold flow_residual_push.J1
   rw [if_neg (by simp)]
   obtain ⟨most, g1, g2, g3, g4⟩ := push_L2 k N A f h fb cm V hc hd V [] k 1 1048576 [] rfl (by omega) (.inr hm) (by omega) (by simp only [List.length_nil]; omega)
   have hsub := Mf.pathOf_sub (ar A) V 1
   have hpl : (Mf.pathOf (ar A) V 1).length ≤ V.length := by have := hsub.length_le; simpa using this
   have hnd : ((Mf.pathOf (ar A) V 1).map (·.1)).Nodup := by
    have := hsub.map (·.1)
    rw [List.map_map] at this
    exact this.nodup (Mf.disc_nodup hd).2
   have g5 := push_L4 k A f fb (fun a ha => by have := h.ok a ha; omega) most g3 (Mf.pathOf (ar A) V 1) (fun s hs => ⟨by have := (Mf.path_room hd 1 s hs).1; rw [ar_len] at this; exact this, g4 s hs⟩) hnd (by omega) (Mf.pathOf (ar A) V 1).length 0 k (by omega) (by omega)
   rw [g1, List.nil_append]
   refine ⟨true, _, g5, .inl ⟨rfl, ?_⟩⟩
   have := Mf.disc_push hf hd hm most (by omega) g4
   exact ⟨this.1, by rw [this.2]; omega⟩
 ·rw [lk_none.2 hm] at h1
  rw [h1]
  show ∃ b f', flow_residual_push.J1 _ _ _ _ _ _ _ = _ ∧ _
  unfold flow_residual_push.J1
  rw [if_pos (by simp)]
  exact ⟨false, f, rfl, .inr ⟨rfl, rfl, hf, V, hd, hcp, hm⟩⟩
theorem grow_L1 (k N : Nat) (A : List api_Arc) (h : NV N A) (hk : 2 * A.length < k) (hk2 : N < k) (C : Int) (hC : ∀ g, Mf.Flow N (ar A) g → Mf.val (ar A) g ≤ C) : ∀ (m n : Nat) (f : List Int), Mf.Flow N (ar A) f → C - Mf.val (ar A) f ≤ m → m < n → ∃ g, flow_Grow.L1 k (N : Int) A (stps N A) n f = some g ∧ Done N A g
 | m, n + 1, f, hf, hm, hn => by
  rw [flow_Grow.L1]
  obtain ⟨b, f', e, h1⟩ := rpush_eq k N A f h hf hk hk2
  rw [e, bnd2_some]
  rcases h1 with ⟨rfl, h2, h3⟩ | ⟨rfl, rfl, h2⟩
  ·rw [chk_pos (by rw [h2.len, hf.len]), if_pos rfl]
   have := hC f' h2
   cases m with
   | zero => omega
   | succ m => exact grow_L1 k N A h hk hk2 C hC m n f' h2 (by omega) (by omega)
  ·rw [chk_pos rfl, if_neg (by simp)]
   exact ⟨f', rfl, h2⟩
theorem sClone_eq (k : Nat) (l : List Int) (h : l.length ≤ 100000) : slices_Clone_int_int k l = some l := by
 unfold slices_Clone_int_int; rw [chk_pos (by omega)]
theorem sm_rep (w : Mf.Arc → Int) : ∀ (A : List Mf.Arc) (n : Nat), Mf.sm A (List.replicate n 0) w = 0
 | [], n => by cases n <;> rfl
 | a :: A, 0 => rfl
 | a :: A, n + 1 => by rw [List.replicate_succ, Mf.sm_cons, sm_rep w A n]; omega
theorem zero_flow {N : Nat} {A : List api_Arc} (h : NV N A) : Mf.Flow N (ar A) (List.replicate A.length 0) := by
 refine ⟨by simp [ar_len], fun i hi => by simp, fun i hi h' => ?_, fun v _ _ => sm_rep _ _ _⟩
 have := h.net.cap _ (List.getElem_mem h')
 simpa using this
theorem zero_val (A : List api_Arc) (n : Nat) : Mf.val (ar A) (List.replicate n 0) = 0 := by unfold Mf.val Mf.sur; exact sm_rep _ _ _
theorem gGrow_eq (k N : Nat) (A : List api_Arc) (f : List Int) (h : NV N A) (hf : Mf.Flow N (ar A) f) (hk : 2 * A.length < k) (hk2 : N < k) (C : Nat) (hC : ∀ g, Mf.Flow N (ar A) g → Mf.val (ar A) g ≤ C) (h0 : 0 ≤ Mf.val (ar A) f) (hk3 : C < k) : ∃ g, flow_Grow k (N : Int) A f = some g ∧ Done N A g := by
 have hl := hf.len
 have := h.len
 rw [ar_len] at hl
 unfold flow_Grow
 rw [sClone_eq k f (by omega), bnd1_some, open_eq k N A f h (by omega), bnd1_some]
 exact grow_L1 k N A h hk hk2 C hC C k f hf (by omega) hk3
theorem lIn_eq (k : Nat) (x a b : Int) : lists_In k x a b = some (decide (a ≤ x ∧ x ≤ b)) := by
 unfold lists_In
 by_cases h : a ≤ x
 ·rw [if_pos h]; simp [h]
 ·rw [if_neg h]; simp [h]
theorem chk1_eq (k : Nat) (a : api_Arc) (N : Int) (A : List api_Arc) (hN : -1000000 ≤ N ∧ N ≤ 1000000) : flow_Check_1 k a.From a.To a.Cap N A = some (!okA N a) := by
 unfold flow_Check_1 okA
 simp only [lIn_eq, w64 (n := N - 1) (by omega) (by omega), bnd1_some]
 by_cases h1 : 0 ≤ a.From ∧ a.From ≤ N - 1
 ·by_cases h2 : 0 ≤ a.To ∧ a.To ≤ N - 1
  ·by_cases h3 : a.From = a.To
   ·simp [h1, h2, h3]
   ·by_cases h4 : a.To = 0
    ·simp [h1, h2, h3, h4]
    ·by_cases h5 : a.From = 1
     ·simp [h1, h2, h3, h4, h5]
     ·have e : (0 ≤ a.From ∧ a.From < N ∧ 0 ≤ a.To ∧ a.To < N ∧ a.From ≠ a.To ∧ a.To ≠ 0 ∧ a.From ≠ 1 ∧ 0 ≤ a.Cap ∧ a.Cap ≤ 1048576) ↔ (0 ≤ a.Cap ∧ a.Cap ≤ 1048576) := by omega
      have e2 : decide (0 ≤ a.From ∧ a.From < N ∧ 0 ≤ a.To ∧ a.To < N ∧ a.From ≠ a.To ∧ a.To ≠ 0 ∧ a.From ≠ 1 ∧ 0 ≤ a.Cap ∧ a.Cap ≤ 1048576) = decide (0 ≤ a.Cap ∧ a.Cap ≤ 1048576) := decide_eq_decide.2 e
      rw [e2]; simp [h1, h2, h3, h4, h5]
  ·have e : ¬ (0 ≤ a.From ∧ a.From < N ∧ 0 ≤ a.To ∧ a.To < N ∧ a.From ≠ a.To ∧ a.To ≠ 0 ∧ a.From ≠ 1 ∧ 0 ≤ a.Cap ∧ a.Cap ≤ 1048576) := by omega
   rw [decide_eq_false e]; simp [h1, h2]
 ·have e : ¬ (0 ≤ a.From ∧ a.From < N ∧ 0 ≤ a.To ∧ a.To < N ∧ a.From ≠ a.To ∧ a.To ≠ 0 ∧ a.From ≠ 1 ∧ 0 ≤ a.Cap ∧ a.Cap ≤ 1048576) := by omega
  rw [decide_eq_false e]; simp [h1]
theorem fidx_loop (k : Nat) (A B : List api_Arc) (N : Int) (hN : -1000000 ≤ N ∧ N ≤ 1000000) (h9 : A.length ≤ 1000000) : ∀ (m i n : Nat), i + m = A.length → m < n → ∃ r, slices_IndexFunc_api_Arc_api_Arc_Check_1.L1 k A N B n (i : Int) = some r ∧ (0 ≤ r ↔ (A.drop i).all (okA N) = false)
 | 0, i, n + 1, h, _ => by rw [slices_IndexFunc_api_Arc_api_Arc_Check_1.L1, if_neg (by omega), List.drop_eq_nil_of_le (by omega)]; exact ⟨_, rfl, by simp⟩
 | m + 1, i, n + 1, h, hn => by
  have hi : i < A.length := by omega
  rw [slices_IndexFunc_api_Arc_api_Arc_Check_1.L1, if_pos (by omega), idx_pos hi, chk1_eq k _ N B hN, bnd1_some, List.drop_eq_getElem_cons hi, List.all_cons]
  by_cases e : okA N A[i] = true
  ·rw [if_neg (by simp [e]), sc64 i (by omega)]
   obtain ⟨r, h1, h2⟩ := fidx_loop k A B N hN h9 m (i + 1) n (by omega) (by omega)
   exact ⟨r, h1, by rw [h2, e]; simp⟩
  ·rw [if_pos (by simpa using e)]
   exact ⟨_, rfl, by simp [e]⟩
theorem fCheck_eq (k : Nat) (N : Int) (A : List api_Arc) (hk : 1200 < k) : flow_Check k N A = some (if chkN N A then 0 else 16) := by
 unfold flow_Check chkN
 rw [lIn_eq, bnd1_some]
 by_cases h1 : 2 ≤ N ∧ N ≤ 130
 ·rw [if_neg (by simp [h1])]
  by_cases h2 : 1200 < (A.length : Int)
  ·rw [if_pos h2]; have : ¬ (2 ≤ N ∧ N ≤ 130 ∧ A.length ≤ 1200) := by omega
   rw [decide_eq_false this]; rfl
  ·rw [if_neg h2]
   have e : (2 ≤ N ∧ N ≤ 130 ∧ A.length ≤ 1200) := by omega
   unfold slices_ContainsFunc_api_Arc_api_Arc_Check_1 slices_IndexFunc_api_Arc_api_Arc_Check_1
   obtain ⟨r, g1, g2⟩ := fidx_loop k A A N (by omega) (by omega) A.length 0 k (by omega) (by omega)
   rw [show slices_IndexFunc_api_Arc_api_Arc_Check_1.L1 k A N A k 0 = some r from g1, bnd1_some, bnd1_some]
   rw [List.drop_zero] at g2
   rw [decide_eq_true e, Bool.true_and]
   by_cases q : A.all (okA N) = true
   ·have : ¬ 0 ≤ r := fun z => by rw [g2.1 z] at q; cases q
    rw [q, if_neg (by simpa using this)]; rfl
   ·simp only [Bool.not_eq_true] at q
    rw [q, if_pos (by simpa using g2.2 q)]; rfl
 ·rw [if_pos (by rw [decide_eq_false h1]; rfl)]
  have : ¬ (2 ≤ N ∧ N ≤ 130 ∧ A.length ≤ 1200) := by omega
  rw [decide_eq_false this]; rfl
theorem fMax_eq (k N : Nat) (A : List api_Arc) (h : NV N A) (hk : 2 * A.length < k) (hk2 : 1200 < k) (C : Nat) (hC : ∀ g, Mf.Flow N (ar A) g → Mf.val (ar A) g ≤ C) (hk3 : C < k) : ∃ g, flow_Max k (N : Int) A = some (g, 0) ∧ Done N A g := by
 have h2 := h.n130; have h3 := h.len
 unfold flow_Max
 rw [fCheck_eq k N A hk2, bnd1_some, if_pos ((chkN_iff _ _).2 ⟨N, rfl, h⟩), if_neg (by simp), chk_pos (by omega), show ((A.length : Int)).toNat = A.length by omega]
 obtain ⟨g, e, d⟩ := gGrow_eq k N A _ h (zero_flow h) hk (by omega) C hC (by rw [zero_val]; omega) hk3
 rw [e, bnd1_some]
 exact ⟨g, rfl, d⟩
theorem fMax_bad (k : Nat) (N : Int) (A : List api_Arc) (h : chkN N A = false) (hk2 : 1200 < k) : flow_Max k N A = some ([], 16) := by
 unfold flow_Max
 rw [fCheck_eq k N A hk2, bnd1_some, h, if_pos (by simp)]; simp
theorem val_bound {N : Nat} {A : List api_Arc} (h : NV N A) : ∀ g, Mf.Flow N (ar A) g → Mf.val (ar A) g ≤ ((A.length * 1048576 : Nat) : Int) := by
 intro g hg
 have h1 := Mf.val_le h.net hg (fun v => decide (v = 0)) (by simp) (by simp)
 have h2 : ∀ B : List api_Arc, (∀ a ∈ B, 0 ≤ a.Cap ∧ a.Cap ≤ 1048576) → Mf.capS (ar B) (fun v => decide (v = 0)) ≤ ((B.length * 1048576 : Nat) : Int) := by
  intro B hB
  induction B with
  | nil => simp [ar, Mf.capS]
  | cons b B ih =>
   have := ih fun a ha => hB a (by simp [ha])
   have hb := hB b (by simp)
   unfold ar Mf.capS at this ⊢
   simp only [List.map_cons, List.sum_cons, List.length_cons] at this ⊢
   have : Mf.b2 (decide (b.From = 0) = true ∧ decide (b.To = 0) = false) * b.Cap ≤ 1048576 := by
    unfold Mf.b2; split <;> omega
   omega
 have := h2 A fun a ha => by have := h.ok a ha; omega
 omega
theorem Done.side {N : Nat} {A : List api_Arc} {f : List Int} (h : NV N A) (hd : Done N A f) : ∃ S : Int → Bool, S 0 = true ∧ S 1 = false ∧ Mf.Closed (ar A) f S := by
 obtain ⟨V, d1, d2, d3⟩ := hd.ex
 exact ⟨fun v => decide (v = 0 ∨ v ∈ V.map (·.1)), by simp, by simpa using d3, Mf.disc_closed hd.fl d2⟩
theorem found_same {N : Nat} {A : List api_Arc} {f g : List Int} (h : NV N A) (hf : Mf.Flow N (ar A) f) (hg : Mf.Flow N (ar A) g) {V W : Vs} (d : Mf.Disc (ar A) f V) (d2 : Cpl (ar A) f V) (d3 : (1 : Int) ∉ V.map (·.1)) (e : Mf.Disc (ar A) g W) (e2 : Cpl (ar A) g W) (e3 : (1 : Int) ∉ W.map (·.1)) : ∀ v : Int, v ∈ V.map (·.1) → v ∈ W.map (·.1) := by
 intro v hv
 have c1 := Mf.disc_closed hf d2
 have c2 := Mf.disc_closed hg e2
 have s1 : (fun v => decide (v = 0 ∨ v ∈ W.map (·.1))) 0 = true := by simp
 have s2 : (fun v => decide (v = 0 ∨ v ∈ W.map (·.1))) 1 = false := by simpa using e3
 have v1 := Mf.val_closed h.net hg _ s1 s2 c2
 have v2 := Mf.val_eq h.net hf hg _ _ (by simp) (by simpa using d3) c1 s1 s2 c2
 have c3 := Mf.closed_least h.net hf _ s1 s2 (by rw [← v1, v2])
 have := Mf.disc_in hf s1 c3 d v hv
 simp only [decide_eq_true_eq] at this
 rcases this with rfl | q
 ·exfalso
  obtain ⟨p, hp, e0⟩ := List.mem_map.1 hv
  exact (Mf.disc_mem d p hp).1 e0
 ·exact q
def rchL (N : Nat) (V : Vs) : List Int := whB (fun v => decide (v = 0 ∨ v ∈ V.map (·.1))) N
end Go.TF
