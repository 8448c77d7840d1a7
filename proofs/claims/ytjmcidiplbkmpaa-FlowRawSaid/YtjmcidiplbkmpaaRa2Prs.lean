/- Plain laws: greatest flows and least sides of the reference. -/
import Derived.Test.YtjmcidiplbkmpaaRa2Pfm
set_option linter.unusedVariables false
set_option linter.unusedSimpArgs false
namespace Go.TF
open Go Go.Abs
def rb (V : Vs) (v : Int) : Int := match lk V v with
 | none => 0
 | some s => if s.2 then -((s.1 : Int) + 1) else (s.1 : Int) + 1
def sn (V : Vs) (v : Int) : Bool := decide (v = 0 ∨ v ∈ V.map (·.1))
theorem rb_cons (t : Int) (s : Mf.Step) (V : Vs) (v : Int) : rb ((t, s) :: V) v = if v = t then (if s.2 then -((s.1 : Int) + 1) else (s.1 : Int) + 1) else rb V v := by
 unfold rb; rw [lk]
 by_cases e : v = t
 ·rw [if_pos e, if_pos e]
 ·rw [if_neg e, if_neg e]
theorem sn_cons (t : Int) (s : Mf.Step) (V : Vs) (v : Int) : sn ((t, s) :: V) v = if v = t then true else sn V v := by
 unfold sn
 by_cases e : v = t
 ·rw [if_pos e]; simp [e]
 ·rw [if_neg e]
  refine decide_eq_decide.2 ?_
  rw [List.map_cons, List.mem_cons]
  constructor
  ·rintro (z | z | z)
   ·exact .inl z
   ·exact absurd z e
   ·exact .inr z
  ·rintro (z | z)
   ·exact .inl z
   ·exact .inr (.inr z)
theorem res_L2 (k N : Nat) (A : List api_Arc) (f : List Int) (h : NV N A) (hf : FB A f) (u : Int) (kb : Nat → List Int → List Bool → List Int → Option (List Int)) :
 ∀ (m i n o : Nat) (V : Vs) (todo : List Int), i + m = A.length → m < n → Mf.Disc (ar A) f V → (u = 0 ∨ u ∈ V.map (·.1)) → o ≤ todo.length → (todo.drop o).length ≤ V.length + 1 →
 ∃ (todo' : List Int) (W : Vs) (o' : Nat), ref15_Residual.L2 k A f u kb n o (i : Int) (tabG N (rb V)) (tabG N (sn V)) todo = kb o' (tabG N (rb (W ++ V))) (tabG N (sn (W ++ V))) todo' ∧ Mf.Disc (ar A) f (W ++ V) ∧ o' ≤ todo'.length ∧ todo'.drop o' = todo.drop o ++ (W.map (·.1)).reverse ∧
  (∀ t : Mf.Step, i ≤ t.1 → t.1 < A.length → Mf.stFr (ar A) t = u → 0 < Mf.room (ar A) f t → Mf.stTo (ar A) t = 0 ∨ Mf.stTo (ar A) t ∈ (W ++ V).map (·.1))
 | 0, i, n + 1, o, V, todo, e, _, hd, hu, ho, hq => by
  rw [ref15_Residual.L2, if_neg (by omega)]
  exact ⟨todo, [], o, by simp, hd, ho, by simp, fun t h1 h2 => by omega⟩
 | m + 1, i, n + 1, o, V, todo, e, hn, hd, hu, ho, hq => by
  have hi : i < A.length := by omega
  have ok := h.ok _ (List.getElem_mem hi)
  have hl := h.len; have hN := h.n130
  have hif : i < f.length := by rw [hf.len]; exact hi
  have f0 := hf.lo i hif; have f1 := hf.hi i hif hi
  have eg := Mf.getD_getElem f 0 i hif
  have ea := ar_arc hi
  -- what follows both tests
  have fin : ∀ (o1 : Nat) (W1 : Vs) (todo1 : List Int), Mf.Disc (ar A) f (W1 ++ V) → o1 ≤ todo1.length → todo1.drop o1 = todo.drop o ++ (W1.map (·.1)).reverse →
   (∀ t : Mf.Step, t.1 = i → Mf.stFr (ar A) t = u → 0 < Mf.room (ar A) f t → Mf.stTo (ar A) t = 0 ∨ Mf.stTo (ar A) t ∈ (W1 ++ V).map (·.1)) →
   ∃ (todo' : List Int) (W : Vs) (o' : Nat), ref15_Residual.J3 k (i : Int) (fun v9_ v10_ v11_ v12_ v13_ => ref15_Residual.L2 k A f u kb n v9_ v10_ v11_ v12_ v13_) (tabG N (rb (W1 ++ V))) (tabG N (sn (W1 ++ V))) todo1 o1 = kb o' (tabG N (rb (W ++ V))) (tabG N (sn (W ++ V))) todo' ∧ Mf.Disc (ar A) f (W ++ V) ∧ o' ≤ todo'.length ∧ todo'.drop o' = todo.drop o ++ (W.map (·.1)).reverse ∧
    (∀ t : Mf.Step, i ≤ t.1 → t.1 < A.length → Mf.stFr (ar A) t = u → 0 < Mf.room (ar A) f t → Mf.stTo (ar A) t = 0 ∨ Mf.stTo (ar A) t ∈ (W ++ V).map (·.1)) := by
   intro o1 W1 todo1 hd1 ho1 hq1 hr1
   unfold ref15_Residual.J3
   rw [sc64 i (by omega)]
   obtain ⟨todo', W, o', g1, g2, g3, g4, g5⟩ := res_L2 k N A f h hf u kb m (i + 1) n o1 (W1 ++ V) todo1 (by omega) (by omega) hd1 (by
    rcases hu with q | q
    ·exact .inl q
    ·right; rw [List.map_append, List.mem_append]; exact .inr q) ho1 (by
    rw [hq1, List.length_append, List.length_reverse, List.length_map, List.length_append]; omega)
   refine ⟨todo', W ++ W1, o', by rw [List.append_assoc]; exact g1, by rw [List.append_assoc]; exact g2, g3, by rw [g4, hq1, List.map_append, List.reverse_append, List.append_assoc], fun t t1 t2 t3 t4 => ?_⟩
   rw [List.append_assoc]
   by_cases z : t.1 = i
   ·rcases hr1 t z t3 t4 with q | q
    ·exact .inl q
    ·right; rw [List.map_append, List.mem_append]; exact .inr q
   ·exact g5 t (by omega) t2 t3 t4
  -- the second test
  have snd : ∀ (o1 : Nat) (W1 : Vs) (todo1 : List Int), Mf.Disc (ar A) f (W1 ++ V) → o1 ≤ todo1.length → todo1.drop o1 = todo.drop o ++ (W1.map (·.1)).reverse →
   (Mf.stFr (ar A) (i, false) = u → 0 < Mf.room (ar A) f (i, false) → Mf.stTo (ar A) (i, false) = 0 ∨ Mf.stTo (ar A) (i, false) ∈ (W1 ++ V).map (·.1)) →
   ∃ (todo' : List Int) (W : Vs) (o' : Nat), ref15_Residual.J4 k f u (i : Int) A[i] (fun v9_ v10_ v11_ v12_ v13_ => ref15_Residual.L2 k A f u kb n v9_ v10_ v11_ v12_ v13_) (tabG N (rb (W1 ++ V))) (tabG N (sn (W1 ++ V))) todo1 o1 = kb o' (tabG N (rb (W ++ V))) (tabG N (sn (W ++ V))) todo' ∧ Mf.Disc (ar A) f (W ++ V) ∧ o' ≤ todo'.length ∧ todo'.drop o' = todo.drop o ++ (W.map (·.1)).reverse ∧
    (∀ t : Mf.Step, i ≤ t.1 → t.1 < A.length → Mf.stFr (ar A) t = u → 0 < Mf.room (ar A) f t → Mf.stTo (ar A) t = 0 ∨ Mf.stTo (ar A) t ∈ (W ++ V).map (·.1)) := by
   intro o1 W1 todo1 hd1 ho1 hq1 hr1
   unfold ref15_Residual.J4
   have both : (Mf.stFr (ar A) (i, true) = u → 0 < Mf.room (ar A) f (i, true) → Mf.stTo (ar A) (i, true) = 0 ∨ Mf.stTo (ar A) (i, true) ∈ (W1 ++ V).map (·.1)) → ∀ t : Mf.Step, t.1 = i → Mf.stFr (ar A) t = u → 0 < Mf.room (ar A) f t → Mf.stTo (ar A) t = 0 ∨ Mf.stTo (ar A) t ∈ (W1 ++ V).map (·.1) := by
    rintro hb ⟨j, b⟩ rfl t3 t4
    cases b with
    | true => exact hb t3 t4
    | false => exact hr1 t3 t4
   have d1 := disc_len h hd1
   by_cases c1 : A[i].To = u
   ·rw [if_pos c1, idx_pos hif]
    by_cases c2 : 0 < f[i]
    ·rw [if_pos c2, chk_pos (by rw [tabG_len]; omega), idx_tabG ok.1 ok.2.1]
     by_cases c3 : sn (W1 ++ V) A[i].From = true
     ·rw [if_neg (by simp [c3])]
      refine fin o1 W1 todo1 hd1 ho1 hq1 (both fun _ _ => ?_)
      unfold sn at c3; rw [decide_eq_true_eq] at c3
      simpa [Mf.stTo, ea] using c3
     ·rw [if_pos (by simpa using c3)]
      simp only [Bool.not_eq_true] at c3
      have c4 : A[i].From ≠ 0 ∧ A[i].From ∉ (W1 ++ V).map (·.1) := by unfold sn at c3; rw [decide_eq_false_iff_not] at c3; exact ⟨fun q => c3 (.inl q), fun q => c3 (.inr q)⟩
      have ql : (todo1.drop o1).length ≤ 1000 := by rw [hq1, List.length_append, List.length_reverse, List.length_map]; rw [List.length_append] at d1; omega
      rw [chk_pos (by rw [tabG_len]; omega), chk_pos (by rw [tabG_len]; omega), chk_pos (by simp only [List.length_cons, List.length_nil]; omega), w64 (n := (i : Int) + 1) (by omega) (by omega), w64 (by omega) (by omega), tabG_set ok.1, tabG_set ok.1]
      have e1 : (fun v => if v = A[i].From then -((i : Int) + 1) else rb (W1 ++ V) v) = rb (((A[i].From, (i, true)) :: W1) ++ V) := by funext v; rw [List.cons_append, rb_cons]; simp
      have e2 : (fun v => if v = A[i].From then true else sn (W1 ++ V) v) = sn (((A[i].From, (i, true)) :: W1) ++ V) := by funext v; rw [List.cons_append, sn_cons]
      rw [e1, e2]
      refine fin 0 ((A[i].From, (i, true)) :: W1) _ ⟨c4.1, c4.2, by rw [ar_len]; exact hi, by simp [Mf.stTo, ea], ?_, by simp [Mf.room, List.getElem?_eq_getElem hif]; exact c2, hd1⟩ (by omega) (by rw [List.drop_zero, hq1, List.map_cons, List.reverse_cons, List.append_assoc]) ?_
      ·have : Mf.stFr (ar A) (i, true) = u := by simp [Mf.stFr, ea, c1]
       show Mf.stFr (ar A) (i, true) = 0 ∨ Mf.stFr (ar A) (i, true) ∈ (W1 ++ V).map (·.1)
       rw [this]
       rcases hu with q | q
       ·exact .inl q
       ·right; rw [List.map_append, List.mem_append]; exact .inr q
      ·rintro ⟨j, b⟩ rfl t3 t4
       cases b with
       | true => right; simp [Mf.stTo, ea]
       | false =>
        rcases hr1 t3 t4 with q | q
        ·exact .inl q
        ·right; rw [List.cons_append, List.map_cons]; exact List.mem_cons_of_mem _ q
    ·rw [if_neg c2]
     exact fin o1 W1 todo1 hd1 ho1 hq1 (both fun _ q => absurd (by simpa [Mf.room, List.getElem?_eq_getElem hif] using q) c2)
   ·rw [if_neg c1]
    exact fin o1 W1 todo1 hd1 ho1 hq1 (both fun q => absurd (by simpa [Mf.stFr, ea] using q) c1)
  rw [ref15_Residual.L2, if_pos (by omega), idx_pos hi]
  have d1 := disc_len h hd
  by_cases c1 : A[i].From = u
  ·rw [if_pos c1, idx_pos hif]
   by_cases c2 : f[i] < A[i].Cap
   ·rw [if_pos c2, chk_pos (by rw [tabG_len]; omega), idx_tabG ok.2.2.1 ok.2.2.2.1]
    by_cases c3 : sn V A[i].To = true
    ·rw [if_neg (by simp [c3])]
     refine snd o [] todo hd ho (by simp) fun _ _ => ?_
     unfold sn at c3; rw [decide_eq_true_eq] at c3
     simpa [Mf.stTo, ea] using c3
    ·rw [if_pos (by simpa using c3)]
     simp only [Bool.not_eq_true] at c3
     have c4 : A[i].To ≠ 0 ∧ A[i].To ∉ V.map (·.1) := by unfold sn at c3; rw [decide_eq_false_iff_not] at c3; exact ⟨fun q => c3 (.inl q), fun q => c3 (.inr q)⟩
     rw [chk_pos (by rw [tabG_len]; omega), chk_pos (by rw [tabG_len]; omega), chk_pos (by simp only [List.length_cons, List.length_nil]; omega), w64 (n := (i : Int) + 1) (by omega) (by omega), tabG_set ok.2.2.1, tabG_set ok.2.2.1]
     have e1 : (fun v => if v = A[i].To then ((i : Int) + 1) else rb V v) = rb ([(A[i].To, (i, false))] ++ V) := by funext v; rw [List.singleton_append, rb_cons]; simp
     have e2 : (fun v => if v = A[i].To then true else sn V v) = sn ([(A[i].To, (i, false))] ++ V) := by funext v; rw [List.singleton_append, sn_cons]
     rw [e1, e2]
     refine snd 0 [(A[i].To, (i, false))] _ ⟨c4.1, c4.2, by rw [ar_len]; exact hi, by simp [Mf.stTo, ea], ?_, by simp [Mf.room, List.getElem?_eq_getElem hif, ea]; omega, hd⟩ (by omega) (by rw [List.drop_zero]; rfl) (fun _ _ => .inr (by simp [Mf.stTo, ea]))
     have : Mf.stFr (ar A) (i, false) = u := by simp [Mf.stFr, ea, c1]
     show Mf.stFr (ar A) (i, false) = 0 ∨ Mf.stFr (ar A) (i, false) ∈ V.map (·.1)
     rw [this]; exact hu
   ·rw [if_neg c2]
    refine snd o [] todo hd ho (by simp) fun _ q => absurd ?_ c2
    have q' : 0 < A[i].Cap - f[i] := by simpa [Mf.room, List.getElem?_eq_getElem hif, ea] using q
    omega
  ·rw [if_neg c1]
   exact snd o [] todo hd ho (by simp) fun q => absurd (by simpa [Mf.stFr, ea] using q) c1
theorem res_L1 (k N : Nat) (A : List api_Arc) (f : List Int) (h : NV N A) (hf : FB A f) (hk : A.length < k) : ∀ (m n o : Nat) (todo : List Int) (V : Vs) (p : List Int), m + p.length = N → m < n → Mf.Disc (ar A) f V → o ≤ todo.length → (p ++ todo.drop o).Nodup → (∀ x, x ∈ p ++ todo.drop o ↔ x = 0 ∨ x ∈ V.map (·.1)) →
 (∀ u ∈ p, ∀ t : Mf.Step, t.1 < A.length → Mf.stFr (ar A) t = u → 0 < Mf.room (ar A) f t → Mf.stTo (ar A) t = 0 ∨ Mf.stTo (ar A) t ∈ V.map (·.1)) →
 ∃ V' : Vs, ref15_Residual.L1 k A f n o (tabG N (rb V)) (tabG N (sn V)) todo = some (tabG N (rb V')) ∧ Mf.Disc (ar A) f V' ∧ Cpl (ar A) f V'
 | m, n + 1, o, todo, V, p, e, hn, hd, ho, hnd, hm, hp => by
  have hN := h.n130
  have rng : ∀ x ∈ p ++ todo.drop o, 0 ≤ x ∧ x < N := by
   intro x hx
   rcases (hm x).1 hx with rfl | hx
   ·have := h.two; omega
   ·exact disc_range h hd x hx
  have hle := nodup_range N _ hnd rng
  rw [List.length_append, List.length_drop] at hle
  rw [ref15_Residual.L1]
  by_cases hq : o < todo.length
  ·have hu : todo[o] ∈ p ++ todo.drop o := by rw [List.mem_append]; right; rw [List.drop_eq_getElem_cons hq]; exact List.mem_cons_self ..
   have hall := (hm _).1 hu
   cases m with
   | zero => omega
   | succ m =>
    have e0 : ((o + (0 : Int).toNat : Nat) : Int) = (o : Int) := by simp
    rw [if_pos (by omega), chk_pos (by simp; omega), e0, idx_pos hq, chk_pos (by omega)]
    have hdv := disc_len h hd
    have hqv : (todo.drop o).length ≤ V.length + 1 := by
     have s1 : ∀ x ∈ todo.drop o, x ∈ 0 :: V.map (·.1) := fun x hx => by
      have := (hm x).1 (by rw [List.mem_append]; exact .inr hx)
      simpa using this
     have := List.Nodup.length_le_of_subset (List.nodup_append.1 hnd).2.1 s1
     simpa using this
    rw [List.length_drop] at hqv
    obtain ⟨todo', W, o', g1, g2, g3, g4, g5⟩ := res_L2 k N A f h hf todo[o] (fun v4_ v5_ v6_ v7_ => ref15_Residual.L1 k A f n v4_ v5_ v6_ v7_) A.length 0 k (o + 1) V todo (by omega) hk hd hall (by omega) (by rw [List.length_drop]; omega)
    rw [show (0 : Int) = ((0 : Nat) : Int) from rfl, show o + (1 : Int).toNat = o + 1 from rfl, g1]
    have hwd := (Mf.disc_nodup g2).1
    rw [List.map_append] at hwd
    have perm : (p ++ [todo[o]]) ++ todo'.drop o' = (p ++ todo.drop o) ++ (W.map (·.1)).reverse := by
     rw [g4, List.drop_eq_getElem_cons hq]; simp [-List.getElem_cons_drop]
    refine res_L1 k N A f h hf hk m n o' todo' (W ++ V) (p ++ [todo[o]]) (by simp; omega) (by omega) g2 g3 ?_ ?_ ?_
    ·rw [perm, List.nodup_append]
     refine ⟨hnd, List.pairwise_reverse.2 ((List.nodup_append.1 hwd).1.imp fun q => q.symm), fun a ha b hb => ?_⟩
     rw [List.mem_reverse] at hb
     rintro rfl
     rcases (hm a).1 ha with rfl | ha'
     ·obtain ⟨q, hq1, hq2⟩ := List.mem_map.1 hb
      exact (Mf.disc_mem g2 q (List.mem_append_left _ hq1)).1 hq2
     ·exact (List.nodup_append.1 hwd).2.2 a hb a ha' rfl
    ·intro x
     rw [perm, List.mem_append, hm x, List.mem_reverse, List.map_append, List.mem_append]
     constructor
     ·rintro ((z | z) | z)
      ·exact .inl z
      ·exact .inr (.inr z)
      ·exact .inr (.inl z)
     ·rintro (z | z | z)
      ·exact .inl (.inl z)
      ·exact .inr z
      ·exact .inl (.inr z)
    ·intro u hu' t t1 t2 t3
     rw [List.mem_append, List.mem_singleton] at hu'
     rcases hu' with hu' | rfl
     ·rcases hp u hu' t t1 t2 t3 with z | z
      ·exact .inl z
      ·right; rw [List.map_append, List.mem_append]; exact .inr z
     ·exact g5 t (by omega) t1 t2 t3
  ·have hdn : todo.drop o = [] := List.drop_eq_nil_of_le (by omega)
   rw [if_neg (by omega)]
   refine ⟨V, rfl, hd, fun s h1 h2 h3 => ?_⟩
   rw [ar_len] at h1
   have hx := (hm (Mf.stFr (ar A) s)).2 h2
   rw [hdn, List.append_nil] at hx
   exact hp _ hx s h1 rfl h3
theorem res_eq (k N : Nat) (A : List api_Arc) (f : List Int) (h : NV N A) (hf : FB A f) (hk : A.length < k) (hk2 : N < k) :
 ∃ V : Vs, ref15_Residual k (N : Int) A f = some (tabG N (rb V)) ∧ Mf.Disc (ar A) f V ∧ Cpl (ar A) f V := by
 have := h.n130; have := h.two
 unfold ref15_Residual
 rw [chk_pos (by omega), let1_eq, chk_pos (by omega), let1_eq, show ((N : Int)).toNat = N by omega, chk_pos (by simp; omega), tabG_rep, tabG_rep, tabG_set (by omega)]
 have e1 : tabG N (fun _ => (0 : Int)) = tabG N (rb []) := rfl
 have e2 : (fun v : Int => if v = 0 then true else false) = sn [] := by funext v; unfold sn; by_cases e : v = 0 <;> simp [e]
 rw [e1, e2]
 exact res_L1 k N A f h hf hk N k 0 [0] [] [] (by simp) hk2 trivial (by simp) (by simp) (by simp) (by simp)
end Go.TF
