/- Plain laws: the checks of policies; all functions agree; made graphs and policies. -/
import Derived.Test.YtmiimcogppdepaaHaPcy
set_option linter.unusedVariables false
set_option linter.unusedSimpArgs false
namespace Go.TF
open Go Go.Abs
def tbF : Option Int → List Int → Bool
 | _, [] => true
 | p, x :: l => decide (1 ≤ x) && decide (x ≤ 1000) && (p.all fun y => decide (x ≤ y)) && tbF (some x) l
theorem cTab_loop (k : Nat) (t : List Int) (h9 : t.length ≤ 1000000) : ∀ (m i n : Nat), i + m = t.length → m < n → capacity_Check.L1 k t n (i : Int) = some (if tbF (prv t i) (t.drop i) then 0 else 15)
 | 0, i, n + 1, h, _ => by rw [capacity_Check.L1, if_neg (by omega), List.drop_eq_nil_of_le (by omega)]; rfl
 | m + 1, i, n + 1, h, hn => by
  have hi : i < t.length := by omega
  have ih := cTab_loop k t h9 m (i + 1) n (by omega) (by omega)
  rw [prv_s hi] at ih
  rw [capacity_Check.L1, if_pos (by omega), idx_pos hi, List.drop_eq_getElem_cons hi, tbF]
  unfold capacity_Check.J2 lists_In
  simp only [sc64 i (by omega), ih]
  generalize tbF (some t[i]) (t.drop (i + 1)) = R
  by_cases b1 : 1 ≤ t[i]
  ·rw [if_pos b1, bnd1_some]
   by_cases b2 : t[i] ≤ 1000
   ·rw [if_neg (by simp [b2])]
    cases i with
    | zero => rw [if_neg (by omega)]; simp [prv, b1, b2]
    | succ j =>
     rw [if_pos (by omega), pr64 j (by omega), idx_pos (by omega : j < t.length), prv_s (by omega)]
     by_cases a3 : t[j] < t[j + 1]
     ·rw [if_pos a3]; have : ¬ t[j + 1] ≤ t[j] := by omega
      simp [this]
     ·rw [if_neg a3]; have : t[j + 1] ≤ t[j] := by omega
      simp [this, b1, b2]
   ·rw [if_pos (by simpa using b2)]; simp [b2]
  ·rw [if_neg b1, bnd1_some, if_pos (by simp)]; simp [b1]
theorem tbF_iff' : ∀ (l : List Int) (p : Option Int), tbF p l = true ↔ (∀ x ∈ l, 1 ≤ x ∧ x ≤ 1000) ∧ l.Pairwise (fun a b => b ≤ a) ∧ (∀ q, p = some q → ∀ x ∈ l, x ≤ q)
 | [], p => by simp [tbF]
 | x :: l, p => by
  rw [tbF]
  simp only [Bool.and_eq_true, decide_eq_true_eq, tbF_iff' l (some x), List.mem_cons, List.pairwise_cons]
  constructor
  ·rintro ⟨⟨⟨h1, h2⟩, h3⟩, h4, h5, h6⟩
   refine ⟨fun y hy => ?_, ⟨fun y hy => h6 x rfl y hy, h5⟩, fun q hq y hy => ?_⟩
   ·rcases hy with rfl | hy
    ·exact ⟨h1, h2⟩
    ·exact h4 y hy
   ·subst hq
    simp only [Option.all_some, decide_eq_true_eq] at h3
    rcases hy with rfl | hy
    ·exact h3
    ·have := h6 x rfl y hy; omega
  ·rintro ⟨h1, ⟨h2, h3⟩, h4⟩
   refine ⟨⟨h1 x (.inl rfl), ?_⟩, fun y hy => h1 y (.inr hy), h3, fun q hq y hy => ?_⟩
   ·cases p with
    | none => rfl
    | some q => simp only [Option.all_some, decide_eq_true_eq]; exact h4 q rfl x (.inl rfl)
   ·simp only [Option.some.injEq] at hq; subst hq; exact h2 y hy
def polF (N : Int) (s t : List Int) (lv : Int) : Bool := decide (s.length ≠ 0 ∧ 1 ≤ t.length ∧ t.length ≤ 8 ∧ 1 ≤ lv ∧ lv ≤ 3) && (setF N none s && tbF none t)
theorem cCheck_eq (k : Nat) (N : Int) (E : List api_Edge) (g s t : List Int) (lv : Int) (hk : 500 < k) (hg : g.length < k) (hg9 : g.length ≤ 1000000) (hs : s.length < k) (hs9 : s.length ≤ 1000000) : capacity_Check k N E g s t lv = some (if okG N E g then (if polF N s t lv then 0 else 15) else 14) := by
 unfold capacity_Check
 rw [gCheck_eq k N E g hk hg hg9, bnd1_some]
 by_cases h : okG N E g = true
 ·have hN := ((okG_iff N E g).1 h).1
  rw [if_pos h, if_neg (by simp), if_pos h]
  unfold polF lists_In
  by_cases h1 : (s.length : Int) = 0
  ·rw [if_pos h1]; have : ¬ (s.length ≠ 0 ∧ 1 ≤ t.length ∧ t.length ≤ 8 ∧ 1 ≤ lv ∧ lv ≤ 3) := by omega
   rw [decide_eq_false this]; rfl
  rw [if_neg h1, rise_eq k s N hs hs9 (by omega), bnd1_some]
  by_cases h2 : setF N none s = true
  ·rw [if_neg (by simp [h2])]
   by_cases h3 : (1 : Int) ≤ (t.length : Int)
   ·rw [if_pos h3, bnd1_some]
    by_cases h4 : (t.length : Int) ≤ 8
    ·rw [if_neg (by simpa using h4)]
     by_cases h5 : 1 ≤ lv
     ·rw [if_pos h5, bnd1_some]
      by_cases h6 : lv ≤ 3
      ·rw [if_neg (by simpa using h6)]
       have : (s.length ≠ 0 ∧ 1 ≤ t.length ∧ t.length ≤ 8 ∧ 1 ≤ lv ∧ lv ≤ 3) := by omega
       rw [decide_eq_true this, h2]
       have := cTab_loop k t (by omega) t.length 0 k (by omega) (by omega)
       rw [show (0 : Int) = ((0 : Nat) : Int) from rfl, this]; simp [prv]
      ·rw [if_pos (by simpa using h6)]; have : ¬ (s.length ≠ 0 ∧ 1 ≤ t.length ∧ t.length ≤ 8 ∧ 1 ≤ lv ∧ lv ≤ 3) := by omega
       rw [decide_eq_false this]; rfl
     ·rw [if_neg h5, bnd1_some, if_pos (by simp)]; have : ¬ (s.length ≠ 0 ∧ 1 ≤ t.length ∧ t.length ≤ 8 ∧ 1 ≤ lv ∧ lv ≤ 3) := by omega
      rw [decide_eq_false this]; rfl
    ·rw [if_pos (by simpa using h4)]; have : ¬ (s.length ≠ 0 ∧ 1 ≤ t.length ∧ t.length ≤ 8 ∧ 1 ≤ lv ∧ lv ≤ 3) := by omega
     rw [decide_eq_false this]; rfl
   ·rw [if_neg h3, bnd1_some, if_pos (by simp)]; have : ¬ (s.length ≠ 0 ∧ 1 ≤ t.length ∧ t.length ≤ 8 ∧ 1 ≤ lv ∧ lv ≤ 3) := by omega
    rw [decide_eq_false this]; rfl
  ·rw [if_pos (by simpa using h2)]
   simp only [Bool.not_eq_true] at h2
   simp [h2]
 ·rw [if_neg h, if_pos (by omega), if_neg h]
theorem index_loop (k : Nat) (E : List api_Edge) (f t : Int) (h9 : E.length ≤ 1000000) : ∀ (m i n : Nat), i + m = E.length → m < n → (∀ e ∈ E.take i, bef e ⟨f, t, 0⟩ = true) →
 ∃ j : Nat, ∃ b : Bool, ref11_index.L2 k E f t n (i : Int) = some ((j : Int), b) ∧ j ≤ E.length ∧ (∀ e ∈ E.take j, bef e ⟨f, t, 0⟩ = true) ∧ (∀ h : j < E.length, bef E[j] ⟨f, t, 0⟩ = false ∧ (b = false → ¬ (E[j].From = f ∧ E[j].To = t)))
 | 0, i, n + 1, h, _, ha => by
  rw [ref11_index.L2, if_neg (by omega)]
  unfold ref11_index.J1
  rw [if_neg (by omega)]
  exact ⟨i, false, rfl, by omega, ha, fun h => by omega⟩
 | m + 1, i, n + 1, h, hn, ha => by
  have hi : i < E.length := by omega
  rw [ref11_index.L2, if_pos (by omega), idx_pos hi, before_eq, bnd1_some]
  by_cases e : E[i].From < f ∨ (E[i].From = f ∧ E[i].To < t)
  ·rw [if_pos (by simpa using e), sc64 i (by omega)]
   refine index_loop k E f t h9 m (i + 1) n (by omega) (by omega) fun x hx => ?_
   rw [List.take_succ_eq_append_getElem hi, List.mem_append, List.mem_singleton] at hx
   rcases hx with hx | rfl
   ·exact ha x hx
   ·unfold bef; rw [decide_eq_true_eq]; exact e
  ·rw [if_neg (by rw [decide_eq_true_eq]; exact e)]
   have hb : bef E[i] ⟨f, t, 0⟩ = false := by unfold bef; rw [decide_eq_false_iff_not]; exact e
   unfold ref11_index.J1
   rw [if_pos (by omega), idx_pos hi]
   by_cases q : E[i].From = f
   ·rw [if_pos q]
    refine ⟨i, _, rfl, by omega, ha, fun _ => ⟨hb, fun z => ?_⟩⟩
    intro z2
    simp [z2.2] at z
   ·rw [if_neg q]
    exact ⟨i, _, rfl, by omega, ha, fun _ => ⟨hb, fun _ z => q z.1⟩⟩
theorem with_eq (k : Nat) (N : Int) (E : List api_Edge) (g : List Int) (f t lv : Int) (hk : 500 < k) (ok : okG N E g = true) : ∃ N' E' g' e, ref11_With_o k N E g f t lv = some (N', E', g', e) ∧
 (e = 0 → N' = N ∧ g' = g ∧ okG N E' g = true ∧ (∀ x, x ∈ E' ↔ x ∈ E ∨ x = ⟨f, t, lv⟩)) := by
 obtain ⟨⟨o1, o2, o3⟩, ⟨o4, o5⟩, o6, o7⟩ := (okG_iff N E g).1 ok
 have hgl : (g.length : Int) ≤ N := by have := asc_len g 0 N o4 o5 o1; omega
 unfold ref11_With_o
 rw [rCheck_eq k N E g hk (by omega) (by omega), bnd1_some, if_pos ok, if_neg (by simp)]
 unfold ref11_index
 obtain ⟨j, b, e1, j1, j2, j3⟩ := index_loop k E f t (by omega) E.length 0 k (by omega) (by omega) (by simp)
 rw [show ref11_index.L2 k E f t k 0 = some ((j : Int), b) from e1, bnd2_some]
 have bad : ∀ c : Int, c ≠ 0 → ∃ N' E' g' e, some ((0 : Int), ([] : List api_Edge), ([] : List Int), c) = some (N', E', g', e) ∧ (e = 0 → N' = N ∧ g' = g ∧ okG N E' g = true ∧ (∀ x, x ∈ E' ↔ x ∈ E ∨ x = ⟨f, t, lv⟩)) :=
  fun c hc => ⟨_, _, _, _, rfl, fun h => absurd h hc⟩
 by_cases a1 : f < 0
 ·rw [if_pos a1]; exact bad 4 (by omega)
 rw [if_neg a1]
 by_cases a2 : N ≤ f
 ·rw [if_pos a2]; exact bad 4 (by omega)
 rw [if_neg a2]
 by_cases a3 : t < 0
 ·rw [if_pos a3]; exact bad 4 (by omega)
 rw [if_neg a3]
 by_cases a4 : N ≤ t
 ·rw [if_pos a4]; exact bad 4 (by omega)
 rw [if_neg a4]
 by_cases a5 : f = t
 ·rw [if_pos a5]; exact bad 4 (by omega)
 rw [if_neg a5, rHas_eq k g _ (by omega) (by omega), bnd1_some]
 by_cases a6 : f ∈ g
 ·rw [if_pos (by simpa using a6)]; exact bad 4 (by omega)
 rw [if_neg (by simpa using a6), rHas_eq k g _ (by omega) (by omega), bnd1_some]
 by_cases a7 : t ∈ g
 ·rw [if_pos (by simpa using a7)]; exact bad 4 (by omega)
 rw [if_neg (by simpa using a7)]
 by_cases a8 : lv < 1
 ·rw [if_pos a8]; exact bad 2 (by omega)
 rw [if_neg a8]
 by_cases a9 : 3 < lv
 ·rw [if_pos a9]; exact bad 2 (by omega)
 rw [if_neg a9]
 by_cases b0 : b = true
 ·rw [if_pos b0]; exact bad 19 (by omega)
 rw [if_neg b0]
 by_cases b1 : (E.length : Int) = 500
 ·rw [if_pos b1]; exact bad 3 (by omega)
 rw [if_neg b1]
 unfold ref11_Copy_o
 have hlt : (E.take j).length ≤ 500 := by rw [List.length_take]; omega
 have hld : (E.drop j).length ≤ 500 := by rw [List.length_drop]; omega
 rw [chk_pos (by omega), chk_pos (by omega), bnd3_some, show ((j : Int)).toNat = j by omega, chk_pos (by omega), chk_pos (by omega), chk_pos (by simp only [List.length_cons, List.length_nil]; omega), chk_pos (by omega), chk_pos (by simp only [List.length_append, List.length_cons, List.length_nil]; omega)]
 refine ⟨_, _, _, _, rfl, fun _ => ⟨rfl, rfl, ?_, fun x => ?_⟩⟩
 ·rw [okG_iff]
  simp only [Bool.not_eq_true] at b0
  refine ⟨⟨o1, o2, by simp only [List.length_append, List.length_cons, List.length_nil, List.length_take, List.length_drop]; omega⟩, ⟨o4, o5⟩, fun x hx => ?_, ?_⟩
  ·rw [List.mem_append, List.mem_append, List.mem_singleton] at hx
   rcases hx with (hx | rfl) | hx
   ·exact o6 x (List.mem_of_mem_take hx)
   ·rw [okE_iff]
    show 0 ≤ f ∧ f < N ∧ 0 ≤ t ∧ t < N ∧ f ≠ t ∧ 1 ≤ lv ∧ lv ≤ 3 ∧ f ∉ g ∧ t ∉ g
    exact ⟨by omega, by omega, by omega, by omega, a5, by omega, by omega, a6, a7⟩
   ·exact o6 x (List.mem_of_mem_drop hx)
  ·have split : E.take j ++ E.drop j = E := List.take_append_drop j E
   rw [← split, List.pairwise_append] at o7
   obtain ⟨q1, q2, q3⟩ := o7
   have hafter : ∀ x ∈ E.drop j, bef ⟨f, t, lv⟩ x = true := by
    intro x hx
    have hj : j < E.length := by
     by_cases z : j < E.length
     ·exact z
     ·rw [List.drop_eq_nil_of_le (by omega)] at hx; simp at hx
    obtain ⟨z1, z2⟩ := j3 hj
    have z2 := z2 b0
    have first : bef ⟨f, t, lv⟩ E[j] = true := by
     unfold bef at z1 ⊢; rw [decide_eq_false_iff_not] at z1; rw [decide_eq_true_eq]
     simp only at z1 ⊢
     omega
    rw [List.drop_eq_getElem_cons hj] at hx q2
    rw [List.pairwise_cons] at q2
    rcases List.mem_cons.1 hx with rfl | hx
    ·exact first
    ·exact bef_trans first (q2.1 x hx)
   rw [List.append_assoc, List.singleton_append, List.pairwise_append, List.pairwise_cons]
   refine ⟨q1, ⟨hafter, q2⟩, fun a ha c hc => ?_⟩
   rcases List.mem_cons.1 hc with rfl | hc
   ·exact j2 a ha
   ·exact q3 a ha c hc
 ·have : x ∈ E ↔ x ∈ E.take j ∨ x ∈ E.drop j := by rw [← List.mem_append, List.take_append_drop]
  rw [List.mem_append, List.mem_append, List.mem_singleton, this]
  constructor
  ·rintro ((h | h) | h)
   ·exact .inl (.inl h)
   ·exact .inr h
   ·exact .inl (.inr h)
  ·rintro ((h | h) | h)
   ·exact .inl (.inl h)
   ·exact .inr h
   ·exact .inl (.inr h)
theorem graph_loop (l : List Int) (hl : l.length ≤ 1000) (N : Int) (hN : 2 ≤ N ∧ N ≤ 9) (g : List Int) : ∀ (m n : Nat) (p : Int) (E : List api_Edge), m < n → m ≤ 1000 → Pos p → okG N E g = true →
 ∃ E' q, made_Dice_Graph_o.L3 1000 l n (m : Int) p N E g = some (N, E', g, q) ∧ Pos q ∧ okG N E' g = true
 | 0, n + 1, p, E, _, _, hp, ok => by
  rw [made_Dice_Graph_o.L3, if_neg (by omega)]
  exact ⟨E, p, rfl, hp, ok⟩
 | m + 1, n + 1, p, E, hn, hm, hp, ok => by
  rw [made_Dice_Graph_o.L3, if_pos (by omega)]
  obtain ⟨a, q, e, hq, ha⟩ := Next_eq 1000 l p N hl hp
  obtain ⟨a2, q2, e2, hq2, ha2⟩ := Next_eq 1000 l q N hl hq
  obtain ⟨a3, q3, e3, hq3, ha3⟩ := Next_eq 1000 l q2 3 hl hq2
  rw [e, bnd2_some, e2, bnd2_some, e3, bnd2_some]
  obtain ⟨N', E', g', r, h1, h2⟩ := with_eq 1000 N E g a a2 (IntKind.wrap .i64 (1 + a3)) (by omega) ok
  rw [h1, bnd4_some]
  unfold made_Dice_Graph_o.J4
  rw [pr64 m (by omega)]
  by_cases hr : r = 0
  ·obtain ⟨rfl, rfl, k1, _⟩ := h2 hr
   rw [if_pos hr]
   exact graph_loop l hl N' hN g' m n q3 E' (by omega) (by omega) hq3 k1
  ·rw [if_neg hr]
   exact graph_loop l hl N hN g m n q3 E (by omega) (by omega) hq3 ok
theorem Graph_eq (l : List Int) (p : Int) (hl : l.length ≤ 1000) (hp : Pos p) : ∃ N E g q, made_Dice_Graph_o 1000 l p = some (((N : Nat) : Int), E, g, q) ∧ Pos q ∧ 2 ≤ N ∧ N ≤ 9 ∧ okG (N : Int) E g = true := by
 unfold made_Dice_Graph_o
 obtain ⟨a, q, e, hq, ha⟩ := Next_eq 1000 l p 8 hl hp
 have ha := ha (by omega) (by omega)
 rw [e, bnd2_some]
 have key : ∀ N : Int, 2 ≤ N ∧ N ≤ 9 → ∃ N' E g q', made_Dice_Graph_o.J1 1000 l q N = some (((N' : Nat) : Int), E, g, q') ∧ Pos q' ∧ 2 ≤ N' ∧ N' ≤ 9 ∧ okG (N' : Int) E g = true := by
  intro N hN
  have fin : ∀ (p2 : Int) (g : List Int), Pos p2 → okG N [] g = true → ∃ N' E g' q', made_Dice_Graph_o.J2 1000 l N p2 g = some (((N' : Nat) : Int), E, g', q') ∧ Pos q' ∧ 2 ≤ N' ∧ N' ≤ 9 ∧ okG (N' : Int) E g' = true := by
   intro p2 g hp2 ok
   unfold made_Dice_Graph_o.J2
   obtain ⟨b, q2, e2, hq2, hb⟩ := Next_eq 1000 l p2 23 hl hp2
   have hb := hb (by omega) (by omega)
   obtain ⟨m, rfl⟩ := Int.eq_ofNat_of_zero_le hb.1
   rw [e2, bnd2_some]
   obtain ⟨E', q3, h1, h2, h3⟩ := graph_loop l hl N hN g m 1000 q2 [] (by omega) (by omega) hq2 ok
   obtain ⟨n, rfl⟩ := Int.eq_ofNat_of_zero_le (show 0 ≤ N by omega)
   exact ⟨n, E', g, q3, h1, h2, by omega, by omega, h3⟩
  unfold made_Dice_Graph_o.J1 made_Dice_One
  obtain ⟨b, q2, e2, hq2, hb⟩ := Next_eq 1000 l q 8 hl hq
  rw [e2, bnd2_some, bnd2_some]
  have okn : okG N [] [] = true := by rw [okG_iff]; simp; omega
  split
  ·obtain ⟨c, q3, e3, hq3, hc⟩ := Next_eq 1000 l q2 N hl hq2
   have hc := hc (by omega) (by omega)
   rw [e3, bnd2_some]
   exact fin q3 [c] hq3 (by rw [okG_iff]; simp; omega)
  ·exact fin q2 [] hq2 okn
 split
 ·exact key 4 (by omega)
 ·rw [w64 (by omega) (by omega)]; exact key (2 + a) (by omega)
end Go.TF
