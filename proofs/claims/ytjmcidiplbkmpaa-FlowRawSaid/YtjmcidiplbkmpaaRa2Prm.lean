/- Plain laws: greatest flows of the reference; sides and their capacities. -/
import Derived.Test.YtjmcidiplbkmpaaRa2Prs
set_option linter.unusedVariables false
set_option linter.unusedSimpArgs false
namespace Go.TF
open Go Go.Abs
theorem rb_at {V W : Vs} {t : Int} {s : Mf.Step} (h : t ∉ W.map (·.1)) : rb (W ++ (t, s) :: V) t = if s.2 then -((s.1 : Int) + 1) else (s.1 : Int) + 1 := by
 unfold rb; rw [lk_at h]
theorem rMax_L2 (k N : Nat) (A : List api_Arc) (f : List Int) (h : NV N A) (hf : FB A f) (V : Vs) (kb : List Int → Option (List Int × Int)) (hd : Mf.Disc (ar A) f V) : ∀ (V' W : Vs) (n : Nat) (t most : Int), V = W ++ V' → V'.length < n → (t = 0 ∨ t ∈ V'.map (·.1)) → 1 ≤ most →
 ∃ most', ref15_Max.L2 k A f (tabG N (rb V)) kb n most t = ref15_Max.L3 k A (tabG N (rb V)) most' kb k 1 f ∧ most' ≤ most ∧ 1 ≤ most' ∧ ∀ s ∈ Mf.pathOf (ar A) V' t, most' ≤ Mf.room (ar A) f s
 | [], W, n + 1, t, most, e, hn, ht, hm => by
  rcases ht with rfl | ht
  ·rw [ref15_Max.L2, if_neg (by simp)]
   exact ⟨most, rfl, by omega, hm, by simp [Mf.pathOf]⟩
  ·simp at ht
 | (v, s) :: V', W, n, t, most, e, hn, ht, hm => by
  have hd' : Mf.Disc (ar A) f ((v, s) :: V') := disc_tail (e ▸ hd)
  by_cases t0 : t = 0
  ·subst t0
   cases n with
   | zero => omega
   | succ n =>
    rw [ref15_Max.L2, if_neg (by simp), Mf.pathOf_zero hd']
    exact ⟨most, rfl, by omega, hm, by simp⟩
  ·by_cases tv : t = v
   ·subst tv
    cases n with
    | zero => omega
    | succ n =>
     have hnd := (Mf.disc_nodup hd).1
     have htm : t ∈ V.map (·.1) := by rw [e, List.map_append, List.mem_append]; right; simp
     have rng := disc_range h hd t htm
     rw [e, List.map_append, List.map_cons] at hnd
     have hw : t ∉ W.map (·.1) := fun q => (List.nodup_append.1 hnd).2.2 t q t (by simp) rfl
     have hg : rb V t = if s.2 then -((s.1 : Int) + 1) else (s.1 : Int) + 1 := by rw [e]; exact rb_at hw
     obtain ⟨h1, h2, h3, h4, h5, h6, h7⟩ := hd'
     rw [ar_len] at h3
     have ok := h.ok _ (List.getElem_mem h3)
     have hA := h.len
     have hsf : s.1 < f.length := by rw [hf.len]; exact h3
     have b1 := hf.lo _ hsf; have b2 := hf.hi _ hsf h3
     have er : Mf.room (ar A) f s = if s.2 then f[s.1] else A[s.1].Cap - f[s.1] := by
      unfold Mf.room; rw [ar_arc h3, ← Mf.getD_getElem f 0 _ hsf]
     have hp : Mf.pathOf (ar A) ((t, s) :: V') t = s :: Mf.pathOf (ar A) V' (Mf.stFr (ar A) s) := by rw [Mf.pathOf, if_pos rfl]
     have go : ∀ mm : Int, mm ≤ most → mm ≤ Mf.room (ar A) f s → 1 ≤ mm → ∃ most', ref15_Max.L2 k A f (tabG N (rb V)) kb n mm (Mf.stFr (ar A) s) = ref15_Max.L3 k A (tabG N (rb V)) most' kb k 1 f ∧ most' ≤ most ∧ 1 ≤ most' ∧ ∀ s' ∈ Mf.pathOf (ar A) ((t, s) :: V') t, most' ≤ Mf.room (ar A) f s' := by
      intro mm m1 m2 m3
      obtain ⟨most', g1, g2, g3, g4⟩ := rMax_L2 k N A f h hf V kb hd V' (W ++ [(t, s)]) n (Mf.stFr (ar A) s) mm (by rw [e]; simp) (by simp only [List.length_cons] at hn; omega) h5 m3
      refine ⟨most', g1, by omega, g3, fun x hx => ?_⟩
      rw [hp] at hx
      rcases List.mem_cons.1 hx with rfl | hx
      ·omega
      ·exact g4 x hx
     rw [ref15_Max.L2, if_pos t0, idx_tabG rng.1 rng.2, hg]
     cases hb : s.2 with
     | false =>
      rw [hb] at er
      have hfr : Mf.stFr (ar A) s = A[s.1].From := by unfold Mf.stFr; rw [hb, ar_arc h3]; rfl
      rw [hfr] at go
      simp only [Bool.false_eq_true, if_false] at er ⊢
      have e1 : IntKind.wrap .i64 ((s.1 : Int) + 1 - 1) = (s.1 : Int) := by rw [w64 (by omega) (by omega)]; omega
      have m1 := mn (A[s.1].Cap - f[s.1]) most
      rw [if_pos (by omega), e1, idx_pos h3, chk_pos (by omega), idx_pos hsf, let1_eq, w64 (n := A[s.1].Cap - f[s.1]) (by omega) (by omega)]
      exact go _ m1.2 (by rw [er]; exact m1.1) (by split <;> omega)
     | true =>
      rw [hb] at er
      have hfr : Mf.stFr (ar A) s = A[s.1].To := by unfold Mf.stFr; rw [hb, ar_arc h3]; rfl
      rw [hfr] at go
      simp only [if_true] at er ⊢
      have e1 : IntKind.wrap .i64 (IntKind.wrap .i64 (-(-((s.1 : Int) + 1))) - 1) = (s.1 : Int) := by rw [w64 (n := -(-((s.1 : Int) + 1))) (by omega) (by omega), w64 (by omega) (by omega)]; omega
      have m1 := mn f[s.1] most
      rw [if_neg (by omega), e1, chk_pos (by omega), idx_pos hsf, let1_eq, idx_pos h3]
      exact go _ m1.2 (by rw [er]; exact m1.1) (by split <;> omega)
   ·have hp : Mf.pathOf (ar A) ((v, s) :: V') t = Mf.pathOf (ar A) V' t := by rw [Mf.pathOf, if_neg tv]
    rw [hp]
    exact rMax_L2 k N A f h hf V kb hd V' (W ++ [(v, s)]) n t most (by rw [e]; simp) (by simp only [List.length_cons] at hn; omega) (by
     rcases ht with ht | ht
     ·exact .inl ht
     ·simp only [List.map_cons, List.mem_cons] at ht
      rcases ht with ht | ht
      ·exact absurd ht tv
      ·exact .inr ht) hm
theorem rMax_L3 (k N : Nat) (A : List api_Arc) (f : List Int) (h : NV N A) (hf : FB A f) (V : Vs) (kb : List Int → Option (List Int × Int)) (hd : Mf.Disc (ar A) f V) (most : Int) (hm : 1 ≤ most) : ∀ (V' W : Vs) (n : Nat) (t : Int) (g : List Int), V = W ++ V' → V'.length < n → (t = 0 ∨ t ∈ V'.map (·.1)) → g.length = A.length → (∀ s ∈ Mf.pathOf (ar A) V' t, g.getD s.1 0 = f.getD s.1 0 ∧ most ≤ Mf.room (ar A) f s) →
 ref15_Max.L3 k A (tabG N (rb V)) most kb n t g = kb (Mf.push g most (Mf.pathOf (ar A) V' t))
 | [], W, n + 1, t, g, e, hn, ht, hg, hr => by
  rcases ht with rfl | ht
  ·rw [ref15_Max.L3, if_neg (by simp)]; rfl
  ·simp at ht
 | (v, s) :: V', W, n, t, g, e, hn, ht, hg, hr => by
  have hd' : Mf.Disc (ar A) f ((v, s) :: V') := disc_tail (e ▸ hd)
  by_cases t0 : t = 0
  ·subst t0
   cases n with
   | zero => omega
   | succ n =>
    rw [ref15_Max.L3, if_neg (by simp), Mf.pathOf_zero hd']; rfl
  ·by_cases tv : t = v
   ·subst tv
    cases n with
    | zero => omega
    | succ n =>
     have hnd := (Mf.disc_nodup hd).1
     have htm : t ∈ V.map (·.1) := by rw [e, List.map_append, List.mem_append]; right; simp
     have rng := disc_range h hd t htm
     rw [e, List.map_append, List.map_cons] at hnd
     have hw : t ∉ W.map (·.1) := fun q => (List.nodup_append.1 hnd).2.2 t q t (by simp) rfl
     have hb0 : rb V t = if s.2 then -((s.1 : Int) + 1) else (s.1 : Int) + 1 := by rw [e]; exact rb_at hw
     have hp : Mf.pathOf (ar A) ((t, s) :: V') t = s :: Mf.pathOf (ar A) V' (Mf.stFr (ar A) s) := by rw [Mf.pathOf, if_pos rfl]
     have hns := (Mf.disc_nodup hd').2
     obtain ⟨h1, h2, h3, h4, h5, h6, h7⟩ := hd'
     rw [ar_len] at h3
     have ok := h.ok _ (List.getElem_mem h3)
     have hA := h.len
     have hsf : s.1 < f.length := by rw [hf.len]; exact h3
     have hsg : s.1 < g.length := by rw [hg]; exact h3
     have b1 := hf.lo _ hsf; have b2 := hf.hi _ hsf h3
     obtain ⟨r1, r2⟩ := hr s (by rw [hp]; simp)
     have er : Mf.room (ar A) f s = if s.2 then f[s.1] else A[s.1].Cap - f[s.1] := by
      unfold Mf.room; rw [ar_arc h3, ← Mf.getD_getElem f 0 _ hsf]
     rw [er] at r2
     have egf : g[s.1] = f[s.1] := by rw [Mf.getD_getElem g 0 _ hsg, Mf.getD_getElem f 0 _ hsf]; exact r1
     have hne : ∀ s' ∈ Mf.pathOf (ar A) V' (Mf.stFr (ar A) s), s'.1 ≠ s.1 := by
      intro s' hs' q
      have := (Mf.pathOf_sub (ar A) V' (Mf.stFr (ar A) s)).subset hs'
      rw [List.map_cons, List.nodup_cons] at hns
      obtain ⟨p, p1, p2⟩ := List.mem_map.1 this
      exact hns.1 (List.mem_map.2 ⟨p, p1, by rw [p2]; exact q⟩)
     have go := rMax_L3 k N A f h hf V kb hd most hm V' (W ++ [(t, s)]) n (Mf.stFr (ar A) s) (Mf.push1 g most s) (by rw [e]; simp) (by simp only [List.length_cons] at hn; omega) h5 (by rw [Mf.push1_len]; exact hg) (fun s' hs' => by
      have := hr s' (by rw [hp]; exact List.mem_cons_of_mem _ hs')
      rw [Mf.push1_get g most s s'.1 hsg, if_neg (hne s' hs')]; exact this)
     have fin : Mf.push g most (Mf.pathOf (ar A) ((t, s) :: V') t) = Mf.push (Mf.push1 g most s) most (Mf.pathOf (ar A) V' (Mf.stFr (ar A) s)) := by rw [hp]; rfl
     rw [fin, ← go, ref15_Max.L3, if_pos t0, idx_tabG rng.1 rng.2, hb0]
     unfold Mf.push1
     rw [← Mf.getD_getElem g 0 _ hsg, egf]
     cases hb : s.2 with
     | false =>
      have hfr : Mf.stFr (ar A) s = A[s.1].From := by unfold Mf.stFr; rw [hb, ar_arc h3]; rfl
      rw [hfr]
      simp only [hb, Bool.false_eq_true, if_false] at r2 ⊢
      have e1 : IntKind.wrap .i64 ((s.1 : Int) + 1 - 1) = (s.1 : Int) := by rw [w64 (by omega) (by omega)]; omega
      rw [if_pos (by omega), e1, chk_pos (by omega), idx_pos hsg, egf, chk_pos (by omega), idx_pos h3, w64 (by omega) (by omega), show ((s.1 : Int)).toNat = s.1 by omega]
     | true =>
      have hfr : Mf.stFr (ar A) s = A[s.1].To := by unfold Mf.stFr; rw [hb, ar_arc h3]; rfl
      rw [hfr]
      simp only [hb, if_true] at r2 ⊢
      have e1 : IntKind.wrap .i64 (IntKind.wrap .i64 (-(-((s.1 : Int) + 1))) - 1) = (s.1 : Int) := by rw [w64 (n := -(-((s.1 : Int) + 1))) (by omega) (by omega), w64 (by omega) (by omega)]; omega
      rw [if_neg (by omega), e1, chk_pos (by omega), idx_pos hsg, egf, chk_pos (by omega), idx_pos h3, w64 (by omega) (by omega), show ((s.1 : Int)).toNat = s.1 by omega, Int.sub_eq_add_neg]
   ·have hp : Mf.pathOf (ar A) ((v, s) :: V') t = Mf.pathOf (ar A) V' t := by rw [Mf.pathOf, if_neg tv]
    rw [hp] at hr ⊢
    exact rMax_L3 k N A f h hf V kb hd most hm V' (W ++ [(v, s)]) n t g (by rw [e]; simp) (by simp only [List.length_cons] at hn; omega) (by
     rcases ht with ht | ht
     ·exact .inl ht
     ·simp only [List.map_cons, List.mem_cons] at ht
      rcases ht with ht | ht
      ·exact absurd ht tv
      ·exact .inr ht) hg hr
theorem rMax_L1 (k N : Nat) (A : List api_Arc) (h : NV N A) (hk : A.length < k) (hk2 : N < k) (C : Int) (hC : ∀ g, Mf.Flow N (ar A) g → Mf.val (ar A) g ≤ C) : ∀ (m n : Nat) (f : List Int), Mf.Flow N (ar A) f → C - Mf.val (ar A) f ≤ m → m < n → ∃ g, ref15_Max.L1 k (N : Int) A n f = some (g, 0) ∧ Done N A g
 | m, n + 1, f, hf, hm, hn => by
  have fb := FB.of hf
  have h2 := h.two; have hN := h.n130
  obtain ⟨V, e, hd, hcp⟩ := res_eq k N A f h fb hk hk2
  have hvl := disc_len h hd
  rw [ref15_Max.L1, e, bnd1_some, idx_tabG (by omega) (by omega)]
  by_cases hv : (1 : Int) ∈ V.map (·.1)
  ·have hz : rb V 1 ≠ 0 := by
    unfold rb
    cases hl : lk V 1 with
    | none => exact absurd hv (lk_none.1 hl)
    | some s => simp only []; split <;> omega
   rw [if_neg hz]
   obtain ⟨most, g1, g2, g3, g4⟩ := rMax_L2 k N A f h fb V (fun v5_ => ref15_Max.L1 k (N : Int) A n v5_) hd V [] k 1 1048576 rfl (by omega) (.inr hv) (by omega)
   have g5 := rMax_L3 k N A f h fb V (fun v5_ => ref15_Max.L1 k (N : Int) A n v5_) hd most g3 V [] k 1 f rfl (by omega) (.inr hv) fb.len (fun s hs => ⟨rfl, g4 s hs⟩)
   rw [g1, g5]
   have := Mf.disc_push hf hd hv most (by omega) g4
   have hc := hC _ this.1
   cases m with
   | zero => omega
   | succ m => exact rMax_L1 k N A h hk hk2 C hC m n _ this.1 (by omega) (by omega)
  ·have hz : rb V 1 = 0 := by unfold rb; rw [lk_none.2 hv]
   rw [if_pos hz]
   exact ⟨f, rfl, hf, V, hd, hcp, hv⟩
theorem r15Check_loop (k : Nat) (N : Int) (A : List api_Arc) (h9 : A.length ≤ 1000000) : ∀ (m i n : Nat), i + m = A.length → m < n → ref15_Check.L1 k N A n (i : Int) = some (if (A.drop i).all (okA N) then 0 else 16)
 | 0, i, n + 1, h, _ => by rw [ref15_Check.L1, if_neg (by omega), List.drop_eq_nil_of_le (by omega)]; rfl
 | m + 1, i, n + 1, h, hn => by
  have hi : i < A.length := by omega
  have ih := r15Check_loop k N A h9 m (i + 1) n (by omega) (by omega)
  rw [ref15_Check.L1, if_pos (by omega), idx_pos hi, List.drop_eq_getElem_cons hi, List.all_cons, sc64 i (by omega), ih]
  have bad : okA N A[i] = false → (some 16 : Option Int) = some (if (okA N A[i] && (A.drop (i + 1)).all (okA N)) = true then 0 else 16) := fun z => by rw [z]; rfl
  by_cases a1 : A[i].From < 0
  ·rw [if_pos a1]; exact bad (by unfold okA; rw [decide_eq_false_iff_not]; omega)
  rw [if_neg a1]
  by_cases a2 : N ≤ A[i].From
  ·rw [if_pos a2]; exact bad (by unfold okA; rw [decide_eq_false_iff_not]; omega)
  rw [if_neg a2]
  by_cases a3 : A[i].To < 0
  ·rw [if_pos a3]; exact bad (by unfold okA; rw [decide_eq_false_iff_not]; omega)
  rw [if_neg a3]
  by_cases a4 : N ≤ A[i].To
  ·rw [if_pos a4]; exact bad (by unfold okA; rw [decide_eq_false_iff_not]; omega)
  rw [if_neg a4]
  by_cases a5 : A[i].From = A[i].To
  ·rw [if_pos a5]; exact bad (by unfold okA; rw [decide_eq_false_iff_not]; omega)
  rw [if_neg a5]
  by_cases a6 : A[i].To = 0
  ·rw [if_pos a6]; exact bad (by unfold okA; rw [decide_eq_false_iff_not]; omega)
  rw [if_neg a6]
  by_cases a7 : A[i].From = 1
  ·rw [if_pos a7]; exact bad (by unfold okA; rw [decide_eq_false_iff_not]; omega)
  rw [if_neg a7]
  by_cases a8 : A[i].Cap < 0
  ·rw [if_pos a8]; exact bad (by unfold okA; rw [decide_eq_false_iff_not]; omega)
  rw [if_neg a8]
  by_cases a9 : 1048576 < A[i].Cap
  ·rw [if_pos a9]; exact bad (by unfold okA; rw [decide_eq_false_iff_not]; omega)
  rw [if_neg a9]
  have : okA N A[i] = true := by unfold okA; rw [decide_eq_true_eq]; omega
  rw [this, Bool.true_and]
theorem r15Check_eq (k : Nat) (N : Int) (A : List api_Arc) (hk : 1200 < k) : ref15_Check k N A = some (if chkN N A then 0 else 16) := by
 unfold ref15_Check chkN
 by_cases h1 : N < 2
 ·rw [if_pos h1, decide_eq_false (by omega)]; rfl
 rw [if_neg h1]
 by_cases h2 : 130 < N
 ·rw [if_pos h2, decide_eq_false (by omega)]; rfl
 rw [if_neg h2]
 by_cases h3 : 1200 < (A.length : Int)
 ·rw [if_pos h3, decide_eq_false (by omega)]; rfl
 rw [if_neg h3, decide_eq_true (by omega), Bool.true_and]
 exact r15Check_loop k N A (by omega) A.length 0 k (by omega) (by omega)
theorem rMax_eq (k N : Nat) (A : List api_Arc) (h : NV N A) (hk2 : 1200 < k) (C : Nat) (hC : ∀ g, Mf.Flow N (ar A) g → Mf.val (ar A) g ≤ C) (hk3 : C < k) : ∃ g, ref15_Max k (N : Int) A = some (g, 0) ∧ Done N A g := by
 have h2 := h.n130; have h3 := h.len
 unfold ref15_Max
 rw [r15Check_eq k N A hk2, bnd1_some, if_pos ((chkN_iff _ _).2 ⟨N, rfl, h⟩), if_neg (by simp), chk_pos (by omega), show ((A.length : Int)).toNat = A.length by omega]
 exact rMax_L1 k N A h (by omega) (by omega) C hC C k _ (zero_flow h) (by rw [zero_val]; omega) hk3
theorem rMax_bad (k : Nat) (N : Int) (A : List api_Arc) (h : chkN N A = false) (hk2 : 1200 < k) : ref15_Max k N A = some ([], 16) := by
 unfold ref15_Max
 rw [r15Check_eq k N A hk2, bnd1_some, h, if_pos (by simp)]
end Go.TF
