/- Plain laws: distances as the program finds them. -/
import Derived.Test.YtmiimcogppdepaaHaPdf
set_option linter.unusedVariables false
set_option linter.unusedSimpArgs false
namespace Go.TF
open Go Go.Abs
def SameM (a b : List Int) : Prop := a.length = b.length ∧ ∀ y, y ∈ a ↔ y ∈ b
theorem SameM.trans {a b c : List Int} (h : SameM a b) (h2 : SameM b c) : SameM a c := ⟨h.1.trans h2.1, fun y => (h.2 y).trans (h2.2 y)⟩
theorem swap_same (l : List Int) (j : Nat) (h : j + 1 < l.length) : SameM ((l.set (j + 1) l[j]).set j l[j + 1]) l := by
 refine ⟨by simp, fun y => ?_⟩
 rw [List.mem_iff_getElem, List.mem_iff_getElem]
 constructor
 ·rintro ⟨n, hn, rfl⟩
  simp only [List.length_set] at hn
  rw [List.getElem_set]
  by_cases e : j = n
  ·rw [if_pos e]; exact ⟨j + 1, h, rfl⟩
  ·rw [if_neg e, List.getElem_set]
   by_cases e2 : j + 1 = n
   ·rw [if_pos e2]; exact ⟨j, by omega, rfl⟩
   ·rw [if_neg e2]; exact ⟨n, hn, rfl⟩
 ·rintro ⟨n, hn, rfl⟩
  by_cases e : n = j
  ·subst e
   refine ⟨n + 1, by simpa using h, ?_⟩
   rw [List.getElem_set, if_neg (by omega), List.getElem_set, if_pos rfl]
  ·by_cases e2 : n = j + 1
   ·subst e2
    refine ⟨j, by simp; omega, ?_⟩
    rw [List.getElem_set, if_pos rfl]
   ·refine ⟨n, by simpa using hn, ?_⟩
    rw [List.getElem_set, if_neg (by omega), List.getElem_set, if_neg (by omega)]
theorem less_eq (k : Nat) (a b : Int) : cmp_Less_int k a b = some (decide (a < b)) := by
 unfold cmp_Less_int cmp_isNaN_int; simp
theorem ins_L3 (k : Nat) (v4 : Int) (kb : Int → List Int → Option (List Int)) : ∀ (j n : Nat) (l : List Int), j < l.length → j < n → l.length ≤ 1000000 → ∃ l', slices_insertionSortOrdered_int.L3 k 0 v4 kb n (j : Int) l = kb (IntKind.wrap .i64 (v4 + 1)) l' ∧ SameM l' l
 | 0, n + 1, l, _, _, _ => by
  rw [slices_insertionSortOrdered_int.L3, if_neg (by omega)]
  exact ⟨l, rfl, rfl, fun _ => Iff.rfl⟩
 | j + 1, n + 1, l, h, hn, h9 => by
  have hj : j < l.length := by omega
  rw [slices_insertionSortOrdered_int.L3, if_pos (by omega), chk_pos (by omega), idx_pos h, pr64 j (by omega), chk_pos (by omega), idx_pos hj, less_eq, bnd1_some]
  by_cases e : l[j + 1] < l[j]
  ·rw [if_pos (by simpa using e), chk_pos (by omega), chk_pos (by omega), chk_pos (by omega), chk_pos (by simp; omega)]
   rw [show (((j + 1 : Nat) : Int)).toNat = j + 1 by omega, show ((j : Int)).toNat = j by omega]
   have S := swap_same l j h
   obtain ⟨l', e1, e2⟩ := ins_L3 k v4 kb j n ((l.set (j + 1) l[j]).set j l[j + 1]) (by simp; omega) (by omega) (by simpa using h9)
   exact ⟨l', e1, e2.trans S⟩
  ·rw [if_neg (by simpa using e)]
   exact ⟨l, rfl, rfl, fun _ => Iff.rfl⟩
theorem ins_L1 (k N : Nat) (hN : N < k) (h9 : N ≤ 1000000) : ∀ (m i n : Nat) (l : List Int), i + m = N → m < n → l.length = N → ∃ l', slices_insertionSortOrdered_int.L1 k 0 (N : Int) n (i : Int) l = some l' ∧ SameM l' l
 | 0, i, n + 1, l, h, _, hl => by
  rw [slices_insertionSortOrdered_int.L1, if_neg (by omega)]
  exact ⟨l, rfl, rfl, fun _ => Iff.rfl⟩
 | m + 1, i, n + 1, l, h, hn, hl => by
  rw [slices_insertionSortOrdered_int.L1, if_pos (by omega)]
  obtain ⟨l1, e1, e2⟩ := ins_L3 k (i : Int) (fun v4_ v5_ => slices_insertionSortOrdered_int.L1 k 0 (N : Int) n v4_ v5_) i k l (by omega) (by omega) (by omega)
  rw [e1]
  simp only [sc64 i (by omega)]
  obtain ⟨l2, e3, e4⟩ := ins_L1 k N hN h9 m (i + 1) n l1 (by omega) (by omega) (by rw [e2.1, hl])
  exact ⟨l2, e3, e4.trans e2⟩
theorem len13 : ∀ m : Fin 13, (math_bits_Len 0 (IntKind.wrap .u64 ((m.val : Nat) : Int))).isSome = true := by decide
theorem sort_eq (k : Nat) (l : List Int) (hl : l.length ≤ 12) (hk : 20 < k) : ∃ l', slices_Sort_int_int k l = some l' ∧ SameM l' l := by
 unfold slices_Sort_int_int
 have h0 : math_bits_Len k (IntKind.wrap .u64 (l.length : Int)) = math_bits_Len 0 (IntKind.wrap .u64 (l.length : Int)) := rfl
 have h1 := len13 ⟨l.length, by omega⟩
 obtain ⟨v, hv⟩ := Option.isSome_iff_exists.1 h1
 simp only at hv
 rw [h0, hv, bnd1_some]
 unfold slices_pdqsortOrdered_int
 obtain ⟨q, rfl⟩ : ∃ q, k = q + 1 := ⟨k - 1, by omega⟩
 rw [slices_pdqsortOrdered_int.L1, w64 (by omega) (by omega), if_pos (by omega)]
 unfold slices_insertionSortOrdered_int
 by_cases e : l.length = 0
 ·rw [w64 (by omega) (by omega), slices_insertionSortOrdered_int.L1, if_neg (by omega), bnd1_some, chk_pos rfl, bnd1_some, chk_pos rfl]
  exact ⟨l, rfl, rfl, fun _ => Iff.rfl⟩
 ·have := ins_L1 (q + 1) l.length (by omega) (by omega) (l.length - 1) 1 (q + 1) l (by omega) (by omega) rfl
  obtain ⟨l', e1, e2⟩ := this
  rw [show IntKind.wrap .i64 ((0 : Int) + 1) = ((1 : Nat) : Int) from sc64 0 (by omega), e1, bnd1_some, chk_pos e2.1, bnd1_some, chk_pos e2.1]
  exact ⟨l', rfl, e2⟩
def outs (E : List api_Edge) (x : Int) : List Int := (E.filter fun e => e.From == x).map (·.To)
theorem mem_outs {E : List api_Edge} {x y : Int} : y ∈ outs E x ↔ ∃ e ∈ E, e.From = x ∧ e.To = y := by
 unfold outs
 simp only [List.mem_map, List.mem_filter, beq_iff_eq]
 constructor
 ·rintro ⟨e, ⟨h1, h2⟩, h3⟩; exact ⟨e, h1, h2, h3⟩
 ·rintro ⟨e, h1, h2, h3⟩; exact ⟨e, ⟨h1, h2⟩, h3⟩
theorem out_loop (k : Nat) (E : List api_Edge) (x : Int) (h9 : E.length ≤ 1000000) (ho : (outs E x).length ≤ 12) (hk : 20 < k) : ∀ (m i n : Nat) (acc : List Int), i + m = E.length → m < n → acc = outs (E.take i) x → ∃ l, graph_Out.L1 k E x n (i : Int) acc = some l ∧ SameM l (outs E x)
 | 0, i, n + 1, acc, h, _, ha => by
  rw [List.take_of_length_le (by omega)] at ha
  rw [graph_Out.L1, if_neg (by omega), ha]
  obtain ⟨l, e1, e2⟩ := sort_eq k (outs E x) ho hk
  rw [e1, bnd1_some, chk_pos e2.1]
  exact ⟨l, rfl, e2⟩
 | m + 1, i, n + 1, acc, h, hn, ha => by
  have hi : i < E.length := by omega
  have hl : acc.length ≤ i := by rw [ha, outs, List.length_map]; exact Nat.le_trans (List.length_filter_le _ _) (by rw [List.length_take]; omega)
  have ht : outs (E.take (i + 1)) x = acc ++ outs [E[i]] x := by unfold outs; rw [List.take_succ_eq_append_getElem hi, List.filter_append, List.map_append, ha]; rfl
  rw [graph_Out.L1, if_pos (by omega), idx_pos hi]
  unfold graph_Out.J2
  simp only [sc64 i (by omega)]
  by_cases e : E[i].From = x
  ·rw [if_pos e, chk_pos (by simp; omega)]
   exact out_loop k E x h9 ho hk m (i + 1) n _ (by omega) (by omega) (by rw [ht]; simp [outs, e])
  ·rw [if_neg e]
   exact out_loop k E x h9 ho hk m (i + 1) n _ (by omega) (by omega) (by rw [ht]; simp [outs, e])
theorem out_eq (k : Nat) (N : Int) (E : List api_Edge) (g : List Int) (x : Int) (h9 : E.length ≤ 1000000) (hE : E.length < k) (ho : (outs E x).length ≤ 12) (hk : 20 < k) : ∃ l, graph_Out k N E g x = some l ∧ SameM l (outs E x) :=
 out_loop k E x h9 ho hk E.length 0 k [] (by omega) hE (by simp [outs])
theorem rep64 : ∀ n : Fin 65, slices_Repeat_int_int 1000 [-1] (((n.val : Nat) : Int) + (if n.val = 0 then 1 else 0)) = some (List.replicate (n.val + if n.val = 0 then 1 else 0) (-1)) := by decide +kernel
theorem rep_eq (n : Nat) (h1 : 1 ≤ n) (h2 : n ≤ 64) : slices_Repeat_int_int 1000 [-1] (n : Int) = some (List.replicate n (-1)) := by
 have := rep64 ⟨n, by omega⟩
 simpa [show ¬ n = 0 by omega] using this
def whF (p : Int → Bool) (i : Nat) : List Int := ((List.range i).filter fun (v : Nat) => p (v : Int)).map fun (v : Nat) => (v : Int)
theorem whF_succ (p : Int → Bool) (i : Nat) : whF p (i + 1) = whF p i ++ if p (i : Int) then [(i : Int)] else [] := by
 unfold whF
 rw [List.range_succ, List.filter_append, List.map_append]
 by_cases h : p (i : Int) = true <;> simp [h]
theorem whF_len (p : Int → Bool) (i : Nat) : (whF p i).length ≤ i := by
 unfold whF; rw [List.length_map]; exact Nat.le_trans (List.length_filter_le _ _) (by simp)
theorem mem_whF {p : Int → Bool} {i : Nat} {y : Int} : y ∈ whF p i ↔ 0 ≤ y ∧ y < i ∧ p y = true := by
 unfold whF
 simp only [List.mem_map, List.mem_filter, List.mem_range]
 constructor
 ·rintro ⟨v, ⟨h1, h2⟩, rfl⟩; exact ⟨by omega, by omega, h2⟩
 ·rintro ⟨h1, h2, h3⟩
  obtain ⟨v, rfl⟩ := Int.eq_ofNat_of_zero_le h1
  exact ⟨v, ⟨by omega, h3⟩, rfl⟩
theorem all1_eq (k : Nat) (v N : Int) (E : List api_Edge) (g s : List Int) (hg : g.length < k) (hg9 : g.length ≤ 1000000) (hs : s.length < k) (hs9 : s.length ≤ 1000000) : distance_All_1 k v N E g s = some (sS s g v) := by
 unfold distance_All_1 distance_start sS
 rw [sContains_eq k s v hs hs9, bnd1_some, sContains_eq k g v hg hg9]
 by_cases h : v ∈ s <;> simp [h]
theorem wh_loop (k N : Nat) (E : List api_Edge) (g s : List Int) (hN : N ≤ 1000000) (hg : g.length < k) (hg9 : g.length ≤ 1000000) (hs : s.length < k) (hs9 : s.length ≤ 1000000) : ∀ (m i n : Nat), i + m = N → m < n → lists_Where_All_1.L1 k (N : Int) (N : Int) E g s n (i : Int) (whF (sS s g) i) = some (whF (sS s g) N)
 | 0, i, n + 1, h, _ => by
  have : i = N := by omega
  subst this
  rw [lists_Where_All_1.L1, if_neg (by omega)]
 | m + 1, i, n + 1, h, hn => by
  have hl := whF_len (sS s g) i
  have ih := wh_loop k N E g s hN hg hg9 hs hs9 m (i + 1) n (by omega) (by omega)
  rw [whF_succ] at ih
  rw [lists_Where_All_1.L1, if_pos (by omega), all1_eq k _ _ E g s hg hg9 hs hs9, bnd1_some]
  unfold lists_Where_All_1.J2
  simp only [sc64 i (by omega)]
  by_cases e : sS s g (i : Int) = true
  ·rw [if_pos e] at ih
   rw [if_pos e, chk_pos (by simp; omega)]; exact ih
  ·rw [if_neg e] at ih
   rw [if_neg e]; simpa using ih
theorem cnt_add (E : List api_Edge) (T : List Int) (x : Int) (hx : x ∉ T) : (E.filter fun e => decide (e.From ∈ T ++ [x])).length = (E.filter fun e => decide (e.From ∈ T)).length + (outs E x).length := by
 induction E with
 | nil => rfl
 | cons e E ih =>
  have ho : outs (e :: E) x = (if e.From = x then [e.To] else []) ++ outs E x := by
   unfold outs
   by_cases h : e.From = x <;> simp [h]
  rw [ho, List.filter_cons, List.filter_cons]
  by_cases h1 : e.From ∈ T
  ·have h2 : ¬ e.From = x := fun q => hx (q ▸ h1)
   rw [if_pos (by simp [h1]), if_pos (by simp [h1]), if_neg h2]
   simp only [List.length_cons, List.nil_append]; omega
  ·by_cases h2 : e.From = x
   ·rw [if_pos (by simp [h2]), if_neg (by simp [h1]), if_pos h2]
    simp only [List.length_cons, List.length_append, List.length_nil]; omega
   ·rw [if_neg (by simp [h1, h2]), if_neg (by simp [h1]), if_neg h2]
    simp only [List.nil_append]; exact ih
theorem filt_congr (E : List api_Edge) (T U : List Int) (h : ∀ x, x ∈ T ↔ x ∈ U) : (E.filter fun e => decide (e.From ∈ T)) = E.filter fun e => decide (e.From ∈ U) := by
 refine List.filter_congr fun e _ => ?_
 simp [h]
def curF (f0 : Int → Int) (F : List Int) (r : Int) (i : Nat) (v : Int) : Int := if v ∈ F.take i then r else f0 v
structure Nxt (E : List api_Edge) (F : List Int) (i : Nat) (acc : List Int) : Prop where
 mem : ∀ y, y ∈ acc ↔ ∃ x ∈ F.take i, y ∈ outs E x
 len : acc.length ≤ (E.filter fun e => decide (e.From ∈ F.take i)).length
theorem all_L2 (k N : Nat) (E : List api_Edge) (g F : List Int) (r : Nat) (kb : List Int → Int → List Int → Option (List Int)) (f0 : Int → Int) (h9 : E.length ≤ 1000000) (hE : E.length < k) (hk : 20 < k) (ho : ∀ x, (outs E x).length ≤ 12) (hF9 : F.length ≤ 1000000) (hr : r ≤ 1000000)
 (hF : ∀ x ∈ F, 0 ≤ x ∧ x < N ∧ f0 x = -1) : ∀ (m i n : Nat) (acc : List Int), i + m = F.length → m < n → Nxt E F i acc →
 ∃ acc', distance_All.L2 k (N : Int) E g F (r : Int) kb n (i : Int) (tab N (curF f0 F r i)) acc = (bnd1 (slices_DeleteFunc_int_int_All_2 k acc' (tab N (curF f0 F r F.length))) fun v => kb v ((r + 1 : Nat) : Int) (tab N (curF f0 F r F.length))) ∧ Nxt E F F.length acc'
 | 0, i, n + 1, acc, h, _, ha => by
  have : i = F.length := by omega
  subst this
  rw [distance_All.L2, if_neg (by omega), sc64 r (by omega)]
  exact ⟨acc, rfl, ha⟩
 | m + 1, i, n + 1, acc, h, hn, ha => by
  have hi : i < F.length := by omega
  obtain ⟨b1, b2, b3⟩ := hF F[i] (List.getElem_mem hi)
  have ht : F.take (i + 1) = F.take i ++ [F[i]] := List.take_succ_eq_append_getElem hi
  have hacc : acc.length ≤ E.length := Nat.le_trans ha.len (List.length_filter_le _ _)
  rw [distance_All.L2, if_pos (by omega), idx_pos hi, chk_pos ⟨b1, by simp; omega⟩, idx_tab b1 b2]
  unfold distance_All.J3
  simp only [sc64 i (by omega)]
  by_cases e : F[i] ∈ F.take i
  ·rw [if_pos (by unfold curF; rw [if_pos e]; omega)]
   have hm : ∀ x, x ∈ F.take (i + 1) ↔ x ∈ F.take i := fun x => by
    rw [ht, List.mem_append, List.mem_singleton]
    exact ⟨fun q => q.elim id fun q => q ▸ e, .inl⟩
   have ec : tab N (curF f0 F r i) = tab N (curF f0 F r (i + 1)) := tab_congr fun v _ _ => by unfold curF; simp only [hm]
   rw [ec]
   exact all_L2 k N E g F r kb f0 h9 hE hk ho hF9 hr hF m (i + 1) n acc (by omega) (by omega) ⟨fun y => by rw [ha.mem]; simp only [hm], by rw [filt_congr E _ _ hm]; exact ha.len⟩
  ·rw [if_neg (by unfold curF; rw [if_neg e, b3]; omega), chk_pos ⟨b1, by simp; omega⟩]
   obtain ⟨l, e1, e2⟩ := out_eq k (N : Int) E g F[i] h9 hE (ho _) hk
   have hol := ho F[i]
   rw [e1, bnd1_some, chk_pos (by rw [e2.1]; omega), tab_set b1]
   have ec : tab N (fun v => if v = F[i] then (r : Int) else curF f0 F r i v) = tab N (curF f0 F r (i + 1)) := tab_congr fun v _ _ => by
    unfold curF
    rw [ht]
    simp only [List.mem_append, List.mem_singleton]
    by_cases q : v = F[i]
    ·rw [if_pos q, if_pos (.inr q)]
    ·rw [if_neg q]; simp only [q, or_false]
   rw [ec]
   refine all_L2 k N E g F r kb f0 h9 hE hk ho hF9 hr hF m (i + 1) n _ (by omega) (by omega) ⟨fun y => ?_, ?_⟩
   ·rw [List.mem_append, ha.mem, e2.2, ht]
    constructor
    ·rintro (⟨x, q1, q2⟩ | q)
     ·exact ⟨x, List.mem_append.2 (.inl q1), q2⟩
     ·exact ⟨F[i], List.mem_append.2 (.inr List.mem_cons_self), q⟩
    ·rintro ⟨x, q1, q2⟩
     rw [List.mem_append, List.mem_singleton] at q1
     rcases q1 with q1 | rfl
     ·exact .inl ⟨x, q1, q2⟩
     ·exact .inr q2
   ·rw [ht, cnt_add E _ _ e, List.length_append, e2.1]
    have := ha.len; omega
theorem out2_tab (N : Nat) (f : Int → Int) (y : Int) : (!out2 (tab N f) y) = decide (0 ≤ y ∧ y < N ∧ f y < 0) := by
 unfold out2
 rw [tab_len]
 by_cases h : 0 ≤ y
 ·by_cases h2 : y < N
  ·obtain ⟨i, rfl⟩ := Int.eq_ofNat_of_zero_le h
   rw [show ((i : Int)).toNat = i by omega, List.getD_eq_getElem?_getD, List.getElem?_eq_getElem (by simp; omega), Option.getD_some, tab_get]
   by_cases h3 : f (i : Int) < 0
   ·have : ¬ 0 ≤ f (i : Int) := by omega
    simp [h2, h3, this]
   ·have : 0 ≤ f (i : Int) := by omega
    simp [h2, h3, this]
  ·simp [h, h2]
 ·simp [h]
def frF (E : List api_Edge) (S : Int → Bool) (r : Nat) (v : Int) : Int := if dE E S r v = (r : Int) then -1 else dE E S r v
theorem inE_dist {N : Nat} {E : List api_Edge} (hE : inE N E) : ∀ e ∈ E.map pr, 0 ≤ e.2 ∧ e.2 < N := by
 intro e he
 obtain ⟨q, h1, rfl⟩ := List.mem_map.1 he
 have := hE q h1
 exact ⟨this.2.2.1, this.2.2.2⟩
theorem all_L1 (k N : Nat) (E : List api_Edge) (g : List Int) (S : Int → Bool) (h9 : E.length ≤ 1000000) (hE9 : E.length < k) (hk : 20 < k) (hN : N < k) (hN9 : N ≤ 1000000) (ho : ∀ x, (outs E x).length ≤ 12) (hE : inE N E) (hS : ∀ v, S v = true → 0 ≤ v ∧ v < N) : ∀ (m r n : Nat) (F : List Int), r + m = N → m < n → F.length < k → F.length ≤ 1000000 → (∀ y, y ∈ F ↔ dE E S r y = (r : Int)) →
 distance_All.L1 k (N : Int) E g n F (r : Int) (tab N (frF E S r)) = some (tab N (dE E S N)) := by
 intro m
 induction m with
 | zero =>
  intro r n F h hn hF hF9 hm
  obtain ⟨n, rfl⟩ : ∃ q, n = q + 1 := ⟨n - 1, by omega⟩
  have hrN : r = N := by omega
  subst hrN
  have hemp : F = [] := by
   cases F with
   | nil => rfl
   | cons y F => have := Dist.dst_lt r hS (inE_dist hE) r y ((hm y).1 (by simp)); omega
  subst hemp
  rw [distance_All.L1, if_neg (by simp)]
  congr 1
  refine tab_congr fun v _ _ => ?_
  unfold frF
  rw [if_neg (fun q => by have := (hm v).2 q; simp at this)]
 | succ m ih =>
  intro r n F h hn hF hF9 hm
  obtain ⟨n, rfl⟩ : ∃ q, n = q + 1 := ⟨n - 1, by omega⟩
  by_cases hemp : F = []
  ·subst hemp
   rw [distance_All.L1, if_neg (by simp)]
   congr 1
   refine tab_congr fun v _ _ => ?_
   have hne : ∀ v, dE E S r v ≠ (r : Int) := fun v q => by have := (hm v).2 q; simp at this
   unfold frF
   rw [if_neg (hne v)]
   have := Dist.dst_stop (E := E.map pr) (S := S) (k := r) hne (m + 1) v
   rw [show N = r + (m + 1) by omega]; exact this.symm
  ·have hpos : 0 < F.length := List.length_pos_iff.2 hemp
   have hrng : ∀ y ∈ F, 0 ≤ y ∧ y < (N : Int) := by
    intro y hy
    have h1 := (hm y).1 hy
    cases r with
    | zero =>
     have : dE E S 0 y = if S y then 0 else -1 := rfl
     rw [this] at h1
     by_cases q : S y = true
     ·exact hS y q
     ·rw [if_neg q] at h1; omega
    | succ r =>
     obtain ⟨_, u, hu, _⟩ := (Dist.dst_succ (E := E.map pr) (S := S) (k := r) (v := y)).1 (by rw [show dE E S (r + 1) y = Dist.dst (E.map pr) S (r + 1) y from rfl] at h1; rw [h1]; omega)
     exact inE_dist hE _ hu
   rw [distance_All.L1, if_pos (by omega)]
   obtain ⟨acc, e1, e2⟩ := all_L2 k N E g F r (fun v8_ v9_ v10_ => distance_All.L1 k (N : Int) E g n v8_ v9_ v10_) (frF E S r) h9 hE9 hk ho hF9 (by omega) (fun x hx => ⟨(hrng x hx).1, (hrng x hx).2, by unfold frF; rw [if_pos ((hm x).1 hx)]⟩) F.length 0 k [] (by omega) hF ⟨fun y => by simp, by simp⟩
   have e0 : tab N (curF (frF E S r) F r 0) = tab N (frF E S r) := tab_congr fun v _ _ => by unfold curF; simp
   rw [e0] at e1
   have hacc : acc.length ≤ E.length := Nat.le_trans e2.len (List.length_filter_le _ _)
   rw [show (0 : Int) = ((0 : Nat) : Int) from rfl, e1, delI_eq k acc _ (by omega) (by omega) (by simp; omega), bnd1_some]
   have ecur : ∀ v, curF (frF E S r) F r F.length v = dE E S r v := by
    intro v
    unfold curF frF
    rw [List.take_length]
    by_cases q : dE E S r v = (r : Int)
    ·rw [if_pos ((hm v).2 q), q]
    ·rw [if_neg (fun z => q ((hm v).1 z)), if_neg q]
   have e3 : tab N (curF (frF E S r) F r F.length) = tab N (frF E S (r + 1)) := tab_congr fun v _ _ => by
    rw [ecur]
    unfold frF
    have h1 := Dist.dst_step (E := E.map pr) (S := S) (k := r) (v := v)
    by_cases q : dE E S (r + 1) v = (r : Int) + 1
    ·rw [if_pos (by rw [q]; omega)]
     exact (Dist.dst_succ.1 q).1
    ·rw [if_neg (fun z => q (by rw [z]; omega))]
     rw [if_neg q] at h1
     exact h1.symm
   rw [e3]
   refine ih (r + 1) n _ (by omega) (by omega) (Nat.lt_of_le_of_lt (Nat.le_trans (List.length_filter_le _ _) hacc) hE9) (Nat.le_trans (Nat.le_trans (List.length_filter_le _ _) hacc) h9) fun y => ?_
   rw [List.mem_filter, ← e3, out2_tab, ecur, decide_eq_true_eq, e2.mem, List.take_length]
   have hs := Dist.dst_succ (E := E.map pr) (S := S) (k := r) (v := y)
   have hr' := Dist.dst_range (E := E.map pr) (S := S) r y
   show _ ↔ Dist.dst (E.map pr) S (r + 1) y = ((r + 1 : Nat) : Int)
   rw [show ((r + 1 : Nat) : Int) = (r : Int) + 1 by omega, hs]
   constructor
   ·rintro ⟨⟨x, q1, q2⟩, q3, q4, q5⟩
    obtain ⟨e, z1, z2, z3⟩ := mem_outs.1 q2
    refine ⟨?_, x, List.mem_map.2 ⟨e, z1, by unfold pr; rw [z2, z3]⟩, (hm x).1 q1⟩
    change Dist.dst (E.map pr) S r y < 0 at q5
    omega
   ·rintro ⟨q1, u, q2, q3⟩
    obtain ⟨e, z1, z2⟩ := List.mem_map.1 q2
    have hin := hE e z1
    simp only [pr, Prod.mk.injEq] at z2
    refine ⟨⟨u, (hm u).2 q3, mem_outs.2 ⟨e, z1, z2.1, z2.2⟩⟩, by omega, by omega, ?_⟩
    show Dist.dst (E.map pr) S r y < 0
    omega
theorem dAll_eq (N : Nat) (E : List api_Edge) (g s : List Int) (hN1 : 1 ≤ N) (hN : N ≤ 64) (h9 : E.length ≤ 500) (ho : ∀ x, (outs E x).length ≤ 12) (hE : inE N E) (hg : g.length ≤ 200) (hs : s.length ≤ 200) (hsr : ∀ x ∈ s, 0 ≤ x ∧ x < N) :
 distance_All 1000 (N : Int) E g s = some (tab N (dE E (sS s g) N)) := by
 unfold distance_All
 rw [let1_eq, if_pos (by omega), rep_eq N hN1 hN, bnd1_some]
 unfold lists_Where_All_1
 have hw := wh_loop 1000 N E g s (by omega) (by omega) (by omega) (by omega) (by omega) N 0 1000 (by omega) (by omega)
 rw [show whF (sS s g) 0 = [] from rfl] at hw
 rw [show (0 : Int) = ((0 : Nat) : Int) from rfl, hw, bnd1_some]
 have hS : ∀ v, sS s g v = true → 0 ≤ v ∧ v < N := fun v h => by
  unfold sS at h; simp only [Bool.and_eq_true, decide_eq_true_eq] at h; exact hsr v h.1
 have hl := whF_len (sS s g) N
 have := all_L1 1000 N E g (sS s g) (by omega) (by omega) (by omega) (by omega) (by omega) ho hE hS N 0 1000 (whF (sS s g) N) (by omega) (by omega) (by omega) (by omega) (fun y => by
  rw [mem_whF, show dE E (sS s g) 0 y = if sS s g y then 0 else -1 from rfl]
  by_cases q : sS s g y = true
  ·have := hS y q
   simp [q]; omega
  ·simp [q])
 rw [show List.replicate N (-1 : Int) = tab N (frF E (sS s g) 0) by
  unfold tab
  refine (List.eq_replicate_iff.2 ⟨by simp, fun b hb => ?_⟩).symm
  obtain ⟨v, _, rfl⟩ := List.mem_map.1 hb
  unfold frF
  rw [show dE E (sS s g) 0 (v : Int) = if sS s g (v : Int) then 0 else -1 from rfl]
  by_cases q : sS s g (v : Int) = true <;> simp [q]]
 exact this
end Go.TF
