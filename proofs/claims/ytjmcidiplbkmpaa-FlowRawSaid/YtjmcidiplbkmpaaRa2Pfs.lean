/- Plain laws: networks; the steps of the nodes; what is found from the source. -/
import Derived.Test.YtjmcidiplbkmpaaRa2Pgr
import Derived.Test.YtjmcidiplbkmpaaRa2Pcut
set_option linter.unusedVariables false
set_option linter.unusedSimpArgs false
namespace Go.TF
open Go Go.Abs
def ar (A : List api_Arc) : List Mf.Arc := A.map fun a => ⟨a.From, a.To, a.Cap⟩
theorem ar_len (A : List api_Arc) : (ar A).length = A.length := by simp [ar]
theorem ar_arc {A : List api_Arc} {i : Nat} (h : i < A.length) : Mf.arc (ar A) i = ⟨A[i].From, A[i].To, A[i].Cap⟩ := by
 unfold Mf.arc; rw [List.getD_eq_getElem?_getD, List.getElem?_eq_getElem (by rw [ar_len]; exact h)]; simp [ar]
def okA (N : Int) (a : api_Arc) : Bool := decide (0 ≤ a.From ∧ a.From < N ∧ 0 ≤ a.To ∧ a.To < N ∧ a.From ≠ a.To ∧ a.To ≠ 0 ∧ a.From ≠ 1 ∧ 0 ≤ a.Cap ∧ a.Cap ≤ 1048576)
def chkN (N : Int) (A : List api_Arc) : Bool := decide (2 ≤ N ∧ N ≤ 130 ∧ A.length ≤ 1200) && A.all (okA N)
structure NV (N : Nat) (A : List api_Arc) : Prop where
 two : 2 ≤ N
 n130 : N ≤ 130
 len : A.length ≤ 1200
 ok : ∀ a ∈ A, 0 ≤ a.From ∧ a.From < N ∧ 0 ≤ a.To ∧ a.To < N ∧ a.From ≠ a.To ∧ a.To ≠ 0 ∧ a.From ≠ 1 ∧ 0 ≤ a.Cap ∧ a.Cap ≤ 1048576
theorem chkN_iff (N : Int) (A : List api_Arc) : chkN N A = true ↔ ∃ n : Nat, N = n ∧ NV n A := by
 unfold chkN
 rw [Bool.and_eq_true, decide_eq_true_eq, List.all_eq_true]
 constructor
 ·rintro ⟨⟨h1, h2, h3⟩, h4⟩
  obtain ⟨n, rfl⟩ := Int.eq_ofNat_of_zero_le (show 0 ≤ N by omega)
  exact ⟨n, rfl, by omega, by omega, h3, fun a ha => by have := h4 a ha; unfold okA at this; rw [decide_eq_true_eq] at this; exact this⟩
 ·rintro ⟨n, rfl, h⟩
  have := h.two; have := h.n130
  exact ⟨⟨by omega, by omega, h.len⟩, fun a ha => by unfold okA; rw [decide_eq_true_eq]; exact h.ok a ha⟩
theorem NV.net {N : Nat} {A : List api_Arc} (h : NV N A) : Mf.Net N (ar A) := by
 have key : ∀ a ∈ ar A, ∃ b ∈ A, a = ⟨b.From, b.To, b.Cap⟩ := by
  intro a ha; obtain ⟨b, hb, rfl⟩ := List.mem_map.1 ha; exact ⟨b, hb, rfl⟩
 refine ⟨h.two, fun a ha => ?_, fun a ha => ?_, fun a ha => ?_, fun a ha => ?_⟩ <;> obtain ⟨b, hb, rfl⟩ := key a ha <;> have := h.ok b hb
 ·exact ⟨this.1, this.2.1, this.2.2.1, this.2.2.2.1⟩
 ·exact this.2.2.2.2.2.1
 ·exact this.2.2.2.2.2.2.1
 ·exact this.2.2.2.2.2.2.2.1
def tabG {β : Type} (N : Nat) (f : Int → β) : List β := (List.range N).map fun (v : Nat) => f (v : Int)
theorem tabG_len {β : Type} (N : Nat) (f : Int → β) : (tabG N f).length = N := by simp [tabG]
theorem idx_tabG {β γ : Type} {N : Nat} {f : Int → β} {x : Int} {F : β → Option γ} (h0 : 0 ≤ x) (h1 : x < N) : idx (tabG N f) x F = F (f x) := by
 obtain ⟨i, rfl⟩ := Int.eq_ofNat_of_zero_le h0
 rw [idx_pos (by rw [tabG_len]; omega)]; simp [tabG]
theorem tabG_set {β : Type} {N : Nat} {f : Int → β} {x : Int} {y : β} (h0 : 0 ≤ x) : (tabG N f).set x.toNat y = tabG N fun v => if v = x then y else f v := by
 refine List.ext_getElem (by simp [tabG]) fun i h1 h2 => ?_
 rw [List.getElem_set]
 simp only [tabG, List.getElem_map, List.getElem_range]
 by_cases e : x.toNat = i
 ·rw [if_pos e, if_pos (by omega)]
 ·rw [if_neg e, if_neg (by omega)]
theorem tabG_rep {β : Type} (N : Nat) (z : β) : List.replicate N z = tabG N fun _ => z := by
 refine List.ext_getElem (by simp [tabG]) fun i h1 h2 => ?_
 simp [tabG]
theorem tabG_get {β : Type} {N : Nat} {f : Int → β} {i : Nat} (h : i < (tabG N f).length) : (tabG N f)[i] = f (i : Int) := by simp [tabG]
def whB (p : Int → Bool) (i : Nat) : List Int := ((List.range i).filter fun (v : Nat) => p (v : Int)).map fun (v : Nat) => (v : Int)
theorem whB_succ (p : Int → Bool) (i : Nat) : whB p (i + 1) = whB p i ++ if p (i : Int) = true then [(i : Int)] else [] := by
 unfold whB
 rw [List.range_succ, List.filter_append, List.map_append]
 by_cases h : p (i : Int) = true <;> simp [h]
theorem whB_len (p : Int → Bool) (i : Nat) : (whB p i).length ≤ i := by
 unfold whB; rw [List.length_map]; exact Nat.le_trans (List.length_filter_le _ _) (by simp)
theorem mem_whB {p : Int → Bool} {i : Nat} {y : Int} : y ∈ whB p i ↔ 0 ≤ y ∧ y < i ∧ p y = true := by
 unfold whB
 simp only [List.mem_map, List.mem_filter, List.mem_range]
 constructor
 ·rintro ⟨a, ⟨h1, h2⟩, rfl⟩; exact ⟨by omega, by omega, h2⟩
 ·rintro ⟨h1, h2, h3⟩; exact ⟨y.toNat, ⟨by omega, by rw [show ((y.toNat : Nat) : Int) = y by omega]; exact h3⟩, by omega⟩
def cvS (s : Mf.Step) : flow_step := ⟨(s.1 : Int), s.2⟩
def stpF (A : List api_Arc) : Nat → Int → List flow_step
 | 0, _ => []
 | i + 1, v => (stpF A i v ++ if (Mf.arc (ar A) i).fr = v then [⟨(i : Int), false⟩] else []) ++ if (Mf.arc (ar A) i).to = v then [⟨(i : Int), true⟩] else []
theorem stpF_len (A : List api_Arc) (v : Int) : ∀ i, (stpF A i v).length ≤ 2 * i
 | 0 => by simp [stpF]
 | i + 1 => by
  have := stpF_len A v i
  rw [stpF, List.length_append, List.length_append]
  have h1 : (if (Mf.arc (ar A) i).fr = v then [(⟨(i : Int), false⟩ : flow_step)] else []).length ≤ 1 := by split <;> simp
  have h2 : (if (Mf.arc (ar A) i).to = v then [(⟨(i : Int), true⟩ : flow_step)] else []).length ≤ 1 := by split <;> simp
  omega
theorem mem_stpF {A : List api_Arc} {v : Int} {s : flow_step} : ∀ {i : Nat}, s ∈ stpF A i v ↔ ∃ t : Mf.Step, s = cvS t ∧ t.1 < i ∧ Mf.stFr (ar A) t = v
 | 0 => by simp [stpF]
 | i + 1 => by
  rw [stpF, List.mem_append, List.mem_append, mem_stpF (i := i)]
  constructor
  ·rintro ((⟨t, h1, h2, h3⟩ | h) | h)
   ·exact ⟨t, h1, by omega, h3⟩
   ·split at h
    ·rename_i e; simp at h; exact ⟨(i, false), h, by simp, by simpa [Mf.stFr] using e⟩
    ·simp at h
   ·split at h
    ·rename_i e; simp at h; exact ⟨(i, true), h, by simp, by simpa [Mf.stFr] using e⟩
    ·simp at h
  ·rintro ⟨⟨j, b⟩, h1, h2, h3⟩
   by_cases e : j = i
   ·subst e
    cases b with
    | false => left; right; rw [if_pos (by simpa [Mf.stFr] using h3)]; simp [h1, cvS]
    | true => right; rw [if_pos (by simpa [Mf.stFr] using h3)]; simp [h1, cvS]
   ·exact .inl (.inl ⟨(j, b), h1, by simp at h2 ⊢; omega, h3⟩)
theorem open_S (N : Nat) (f : Int → List flow_step) (x : Int) (e : flow_step) (F : List (List flow_step) → Option (List (List flow_step))) (h0 : 0 ≤ x) (h1 : x < N) (hl : ∀ v, (f v).length ≤ 100000) : flow_open.S (tabG N f) x e F = F (tabG N fun v => if v = x then f x ++ [e] else f v) := by
 unfold flow_open.S
 rw [chk_pos (by rw [tabG_len]; omega), idx_tabG h0 h1, chk_pos (by have := hl x; simp only [List.length_cons, List.length_nil]; omega), tabG_set h0]
theorem open_L1 (k N : Nat) (A : List api_Arc) (h : NV N A) : ∀ (m i n : Nat), i + m = A.length → m < n → flow_open.L1 k A n (i : Int) (tabG N (stpF A i)) = some (tabG N (stpF A A.length))
 | 0, i, n + 1, e, _ => by
  have : i = A.length := by omega
  subst this
  rw [flow_open.L1, if_neg (by omega)]
 | m + 1, i, n + 1, e, hn => by
  have hi : i < A.length := by omega
  have ok := h.ok _ (List.getElem_mem hi)
  have hl := h.len
  have ih := open_L1 k N A h m (i + 1) n (by omega) (by omega)
  have ea := ar_arc hi
  rw [flow_open.L1, if_pos (by omega), idx_pos hi, open_S N _ _ _ _ ok.1 ok.2.1 (fun v => by have := stpF_len A v i; omega)]
  rw [open_S N _ _ _ _ ok.2.2.1 ok.2.2.2.1 (fun v => by
   have := stpF_len A v i
   split
   ·rename_i e; subst e; simp; omega
   ·omega), sc64 i (by omega), ← ih]
  congr 2
  funext v
  rw [stpF, ea]
  by_cases e1 : v = A[i].To
  ·subst e1
   rw [if_pos rfl, if_neg (fun z => ok.2.2.2.2.1 z.symm), if_neg (fun z => ok.2.2.2.2.1 z), if_pos rfl]; simp
  ·rw [if_neg e1]
   by_cases e2 : v = A[i].From
   ·subst e2
    rw [if_pos rfl, if_pos rfl, if_neg (fun z => e1 z.symm)]; simp
   ·rw [if_neg e2, if_neg (fun z => e2 z.symm), if_neg (fun z => e1 z.symm)]; simp
def stps (N : Nat) (A : List api_Arc) : List (List flow_step) := tabG N (stpF A A.length)
theorem open_eq (k N : Nat) (A : List api_Arc) (f : List Int) (h : NV N A) (hk : A.length < k) : flow_open k (N : Int) A f = some (stps N A) := by
 have := h.n130
 unfold flow_open
 rw [chk_pos (by omega), show ((N : Int)).toNat = N by omega, tabG_rep]
 exact open_L1 k N A h A.length 0 k (by omega) hk
theorem nodup_range : ∀ (N : Nat) (l : List Int), l.Nodup → (∀ x ∈ l, 0 ≤ x ∧ x < N) → l.length ≤ N
 | 0, l, _, h => by
  cases l with
  | nil => simp
  | cons a l => have := h a (by simp); omega
 | N + 1, l, hn, h => by
  by_cases e : (N : Int) ∈ l
  ·have := nodup_range N (l.erase (N : Int)) (hn.erase _) fun x hx => by
    have hx' := (hn.mem_erase_iff).1 hx
    have := h x hx'.2
    have : x ≠ (N : Int) := hx'.1
    omega
   rw [List.length_erase_of_mem e] at this; omega
  ·have := nodup_range N l hn fun x hx => by
    have := h x hx
    have : x ≠ (N : Int) := fun q => e (q ▸ hx)
    omega
   omega
theorem mget_put0 {β : Type} (m : List (Int × β)) (a b : Int) (v : β) : mget (mput m a v) b = if b = a then some v else mget m b := by
 have fi : ∀ m : List (Int × β), ∀ b : Int, mgI m b = m.findIdx? fun p => b == p.1 := fun _ _ => rfl
 unfold mput
 cases h : mgI m a with
 | none =>
  simp only
  have hn : ∀ p ∈ m, ¬ a = p.1 := by
   rw [fi, List.findIdx?_eq_none_iff] at h
   intro p hp; simpa using h p hp
  unfold mget
  rw [fi, fi, List.findIdx?_append]
  by_cases e : b = a
  ·subst e
   rw [if_pos rfl]
   have : m.findIdx? (fun p => b == p.1) = none := by rw [← fi]; exact h
   rw [this]; simp [List.findIdx?_cons]
  ·rw [if_neg e]
   cases hb : m.findIdx? (fun p => b == p.1) with
   | none => simp [List.findIdx?_cons, e]
   | some j =>
    have hj : j < m.length := (List.findIdx?_eq_some_iff_findIdx_eq.1 hb).1
    simp [List.getElem?_append_left hj]
 | some j =>
  simp only
  rw [fi, List.findIdx?_eq_some_iff_findIdx_eq] at h
  have hj := h.1
  have haj : a = m[j].1 := by
   have := List.findIdx_getElem (xs := m) (p := fun p => a == p.1) (w := by rw [h.2]; exact hj)
   simp only [h.2, beq_iff_eq] at this; exact this
  have e1 : (m.set j (a, v)).findIdx? (fun p => b == p.1) = m.findIdx? (fun p => b == p.1) := by
   have : (m.set j (a, v)).map (fun p => p.1) = m.map (fun p => p.1) := by
    rw [List.map_set]
    refine List.ext_getElem (by simp) fun i h1 h2 => ?_
    rw [List.getElem_set]
    split
    ·rename_i e; subst e; simp [haj]
    ·rfl
   have g : ∀ l : List (Int × β), l.findIdx? (fun p => b == p.1) = (l.map (fun p => p.1)).findIdx? (fun x => b == x) := fun l => by rw [List.findIdx?_map]; rfl
   rw [g, g, this]
  unfold mget
  rw [fi, fi, e1]
  by_cases e : b = a
  ·subst e
   rw [if_pos rfl]
   have : m.findIdx? (fun p => b == p.1) = some j := List.findIdx?_eq_some_iff_findIdx_eq.2 h
   rw [this]; simp [hj]
  ·rw [if_neg e]
   cases hb : m.findIdx? (fun p => b == p.1) with
   | none => rfl
   | some i =>
    have hi := List.findIdx?_eq_some_iff_findIdx_eq.1 hb
    have hbi : b = m[i].1 := by
     have := List.findIdx_getElem (xs := m) (p := fun p => b == p.1) (w := by rw [hi.2]; exact hi.1)
     simp only [hi.2, beq_iff_eq] at this; exact this
    have : ¬ j = i := by rintro rfl; exact e (hbi.trans haj.symm)
    simp [List.getElem?_set, this]
abbrev Vs := List (Int × Mf.Step)
def lk : Vs → Int → Option Mf.Step
 | [], _ => none
 | (w, s) :: V, v => if v = w then some s else lk V v
theorem lk_none {V : Vs} {v : Int} : lk V v = none ↔ v ∉ V.map (·.1) := by
 induction V with
 | nil => simp [lk]
 | cons p V ih =>
  obtain ⟨w, s⟩ := p
  rw [lk]
  by_cases e : v = w
  ·rw [if_pos e]; simp [e]
  ·rw [if_neg e, ih]; simp [e]
def Cm (m : List (Int × flow_step)) (V : Vs) : Prop := ∀ v, mget m v = if v = 0 then some ⟨-1, false⟩ else (lk V v).map cvS
def Cpl (A : List Mf.Arc) (f : List Int) (V : Vs) : Prop := ∀ s : Mf.Step, s.1 < A.length → (Mf.stFr A s = 0 ∨ Mf.stFr A s ∈ V.map (·.1)) → 0 < Mf.room A f s → Mf.stTo A s = 0 ∨ Mf.stTo A s ∈ V.map (·.1)
structure FB (A : List api_Arc) (f : List Int) : Prop where
 len : f.length = A.length
 lo : ∀ (i : Nat) (h : i < f.length), 0 ≤ f[i]
 hi : ∀ (i : Nat) (h : i < f.length) (h' : i < A.length), f[i] ≤ A[i].Cap
theorem FB.of {N : Nat} {A : List api_Arc} {f : List Int} (h : Mf.Flow N (ar A) f) : FB A f :=
 ⟨by rw [h.len, ar_len], h.lo, fun i a b => by have := h.hi i a (by rw [ar_len]; exact b); simpa [ar] using this⟩
theorem room_eq (k N : Nat) (A : List api_Arc) (f : List Int) (at_ : List (List flow_step)) (h : NV N A) (hf : FB A f) (t : Mf.Step) (ht : t.1 < A.length) : flow_residual_room k (N : Int) A f at_ (cvS t).arc (cvS t).back = some (Mf.room (ar A) f t, Mf.stTo (ar A) t) := by
 obtain ⟨i, b⟩ := t
 simp only [] at ht
 have hi : i < f.length := by rw [hf.len]; exact ht
 have a1 := hf.lo i hi; have a2 := hf.hi i hi ht
 have ok := h.ok _ (List.getElem_mem ht)
 have eg := Mf.getD_getElem f 0 i hi
 unfold flow_residual_room cvS
 simp only []
 rw [idx_pos ht]
 cases b with
 | true => rw [if_pos rfl, idx_pos hi]; simp [Mf.room, Mf.stTo, ar_arc ht, List.getElem?_eq_getElem hi]
 | false => rw [if_neg (by simp), idx_pos hi, w64 (by omega) (by omega)]; simp [Mf.room, Mf.stTo, ar_arc ht, List.getElem?_eq_getElem hi]
theorem disc_range {N : Nat} {A : List api_Arc} {f : List Int} (h : NV N A) {V : Vs} (hd : Mf.Disc (ar A) f V) : ∀ v : Int, v ∈ V.map (·.1) → 0 ≤ v ∧ v < N := by
 intro v hv
 obtain ⟨p, hp, rfl⟩ := List.mem_map.1 hv
 obtain ⟨_, h2, h3, _⟩ := Mf.disc_mem hd p hp
 rw [ar_len] at h2
 have ok := h.ok _ (List.getElem_mem h2)
 rw [← h3]; unfold Mf.stTo; rw [ar_arc h2]
 cases p.2.2 <;> simp <;> omega
theorem stTo_range {N : Nat} {A : List api_Arc} (h : NV N A) (t : Mf.Step) (ht : t.1 < A.length) : 0 ≤ Mf.stTo (ar A) t ∧ Mf.stTo (ar A) t < N := by
 have ok := h.ok _ (List.getElem_mem ht)
 unfold Mf.stTo; rw [ar_arc ht]
 cases t.2 <;> simp <;> omega
theorem disc_len {N : Nat} {A : List api_Arc} {f : List Int} (h : NV N A) {V : Vs} (hd : Mf.Disc (ar A) f V) : V.length + 1 ≤ N := by
 have := nodup_range N (0 :: V.map (·.1)) (List.nodup_cons.2 ⟨fun hm => by
  obtain ⟨p, hp, e⟩ := List.mem_map.1 hm
  exact (Mf.disc_mem hd p hp).1 e, (Mf.disc_nodup hd).1⟩) (fun x hx => by
  rcases List.mem_cons.1 hx with rfl | hx
  ·have := h.two; omega
  ·exact disc_range h hd x hx)
 simpa using this
theorem search_L2 (k N : Nat) (A : List api_Arc) (f : List Int) (h : NV N A) (hf : FB A f) (u : Int) (kb : Nat → List (Int × flow_step) → List Int → Option (List (Int × flow_step))) (L : List flow_step) (hL : ∀ s ∈ L, ∃ t : Mf.Step, s = cvS t ∧ t.1 < A.length ∧ Mf.stFr (ar A) t = u) (hl9 : L.length ≤ 100000) :
 ∀ (m j n o : Nat) (cm : List (Int × flow_step)) (todo : List Int) (V : Vs), j + m = L.length → m < n → Mf.Disc (ar A) f V → Cm cm V → (u = 0 ∨ u ∈ V.map (·.1)) → o < todo.length → (todo.drop o).length ≤ V.length + 1 →
 ∃ (cm' : List (Int × flow_step)) (todo' : List Int) (W : Vs) (o' : Nat), flow_residual_search.L2 k (N : Int) A f (stps N A) L kb n o (j : Int) cm todo = kb (o' + 1) cm' todo' ∧ Mf.Disc (ar A) f (W ++ V) ∧ Cm cm' (W ++ V) ∧ o' < todo'.length ∧ todo'.drop o' = todo.drop o ++ (W.map (·.1)).reverse ∧
  (∀ s ∈ L.drop j, ∀ t : Mf.Step, s = cvS t → 0 < Mf.room (ar A) f t → Mf.stTo (ar A) t = 0 ∨ Mf.stTo (ar A) t ∈ (W ++ V).map (·.1))
 | 0, j, n + 1, o, cm, todo, V, e, _, hd, hc, hu, ho, hq => by
  rw [flow_residual_search.L2, if_neg (by omega), chk_pos (by omega)]
  exact ⟨cm, todo, [], o, by simp, hd, hc, ho, by simp, fun s hs => by rw [List.drop_eq_nil_of_le (by omega)] at hs; simp at hs⟩
 | m + 1, j, n + 1, o, cm, todo, V, e, hn, hd, hc, hu, ho, hq => by
  have hj : j < L.length := by omega
  obtain ⟨t, t1, t2, t3⟩ := hL _ (List.getElem_mem hj)
  have hv := disc_len h hd
  have hN := h.n130
  have ts := stTo_range h t t2
  rw [flow_residual_search.L2, if_pos (by omega), idx_pos hj, t1, room_eq k N A f _ h hf t t2, bnd2_some]
  have go : ∀ (o1 : Nat) (cm1 : List (Int × flow_step)) (todo1 : List Int) (V1 W1 : Vs), V1 = W1 ++ V → Mf.Disc (ar A) f V1 → Cm cm1 V1 → o1 < todo1.length → todo1.drop o1 = todo.drop o ++ (W1.map (·.1)).reverse → (0 < Mf.room (ar A) f t → Mf.stTo (ar A) t = 0 ∨ Mf.stTo (ar A) t ∈ V1.map (·.1)) →
   ∃ (cm' : List (Int × flow_step)) (todo' : List Int) (W : Vs) (o' : Nat), flow_residual_search.J3 k (j : Int) (fun v10_ v11_ v12_ v13_ => flow_residual_search.L2 k (N : Int) A f (stps N A) L kb n v10_ v11_ v12_ v13_) cm1 todo1 o1 = kb (o' + 1) cm' todo' ∧ Mf.Disc (ar A) f (W ++ V) ∧ Cm cm' (W ++ V) ∧ o' < todo'.length ∧ todo'.drop o' = todo.drop o ++ (W.map (·.1)).reverse ∧
   (∀ s ∈ L.drop j, ∀ t : Mf.Step, s = cvS t → 0 < Mf.room (ar A) f t → Mf.stTo (ar A) t = 0 ∨ Mf.stTo (ar A) t ∈ (W ++ V).map (·.1)) := by
   intro o1 cm1 todo1 V1 W1 e1 hd1 hc1 ho1 hq1 hr1
   unfold flow_residual_search.J3
   rw [sc64 j (by omega)]
   obtain ⟨cm', todo', W, o', g1, g2, g3, g4, g5, g6⟩ := search_L2 k N A f h hf u kb L hL hl9 m (j + 1) n o1 cm1 todo1 V1 (by omega) (by omega) hd1 hc1 (by
    rcases hu with hu | hu
    ·exact .inl hu
    ·right; rw [e1, List.map_append, List.mem_append]; exact .inr hu) ho1 (by
    rw [hq1, List.length_append, List.length_reverse, List.length_map, e1, List.length_append]; omega)
   subst e1
   refine ⟨cm', todo', W ++ W1, o', g1, by rw [List.append_assoc]; exact g2, by rw [List.append_assoc]; exact g3, g4, by rw [g5, hq1, List.map_append, List.reverse_append, List.append_assoc], ?_⟩
   intro s hs t' ht' hr
   rw [List.append_assoc]
   rw [List.drop_eq_getElem_cons hj, List.mem_cons] at hs
   rcases hs with rfl | hs
   ·have : t' = t := by
     have := ht'.symm.trans t1
     unfold cvS at this
     simp only [flow_step.mk.injEq] at this
     exact Prod.ext (by omega) this.2
    subst this
    rcases hr1 hr with q | q
    ·exact .inl q
    ·right; rw [List.map_append, List.mem_append]; exact .inr q
   ·exact g6 s hs t' ht' hr
  have hcm := hc (Mf.stTo (ar A) t)
  by_cases z0 : Mf.stTo (ar A) t = 0
  ·rw [if_pos z0] at hcm
   rw [hcm]
   show ∃ cm' todo' W o', flow_residual_search.J4 _ _ _ _ _ _ _ _ _ _ = _ ∧ _
   unfold flow_residual_search.J4
   have := go o cm todo V [] rfl hd hc ho (by simp) (fun _ => .inl z0)
   split
   ·rw [if_neg (by simp)]; exact this
   ·exact this
  ·rw [if_neg z0] at hcm
   cases hl : lk V (Mf.stTo (ar A) t) with
   | some s0 =>
    rw [hl] at hcm
    rw [hcm]
    show ∃ cm' todo' W o', flow_residual_search.J4 _ _ _ _ _ _ _ _ _ _ = _ ∧ _
    unfold flow_residual_search.J4
    have hm : Mf.stTo (ar A) t ∈ V.map (·.1) := by
     apply Classical.byContradiction; intro q
     rw [lk_none.2 q] at hl; cases hl
    have := go o cm todo V [] rfl hd hc ho (by simp) (fun _ => .inr hm)
    split
    ·rw [if_neg (by simp)]; exact this
    ·exact this
   | none =>
    rw [hl] at hcm
    rw [hcm]
    show ∃ cm' todo' W o', flow_residual_search.J4 _ _ _ _ _ _ _ _ _ _ = _ ∧ _
    unfold flow_residual_search.J4
    by_cases hr : 0 < Mf.room (ar A) f t
    ·rw [if_pos hr, if_pos (by simp), chk_pos (by rw [show ([Mf.stTo (ar A) t] : List Int).length = 1 from rfl]; omega)]
     have hm := lk_none.1 hl
     refine go 0 _ _ ((Mf.stTo (ar A) t, t) :: V) [(Mf.stTo (ar A) t, t)] rfl ⟨z0, hm, by rw [ar_len]; exact t2, rfl, by rw [t3]; exact hu, hr, hd⟩ ?_ (by simp) (by simp) (fun _ => .inr (by simp))
     intro v
     rw [mget_put0, lk]
     by_cases e2 : v = Mf.stTo (ar A) t
     ·rw [if_pos e2, if_pos e2, if_neg (by rw [e2]; exact z0)]; rfl
     ·rw [if_neg e2, if_neg e2]; exact hc v
    ·rw [if_neg hr]
     exact go o cm todo V [] rfl hd hc ho (by simp) (fun q => absurd q hr)
theorem search_L1 (k N : Nat) (A : List api_Arc) (f : List Int) (h : NV N A) (hf : FB A f) (hk : 2 * A.length < k) : ∀ (m n o : Nat) (cm : List (Int × flow_step)) (todo : List Int) (V : Vs) (p : List Int), m + p.length = N → m < n → Mf.Disc (ar A) f V → Cm cm V → o ≤ todo.length → (p ++ todo.drop o).Nodup → (∀ x, x ∈ p ++ todo.drop o ↔ x = 0 ∨ x ∈ V.map (·.1)) →
 (∀ u ∈ p, ∀ t : Mf.Step, t.1 < A.length → Mf.stFr (ar A) t = u → 0 < Mf.room (ar A) f t → Mf.stTo (ar A) t = 0 ∨ Mf.stTo (ar A) t ∈ V.map (·.1)) →
 ∃ (cm' : List (Int × flow_step)) (V' : Vs), flow_residual_search.L1 k (N : Int) A f (stps N A) n o cm todo = some cm' ∧ Mf.Disc (ar A) f V' ∧ Cm cm' V' ∧ Cpl (ar A) f V'
 | m, n + 1, o, cm, todo, V, p, e, hn, hd, hc, ho, hnd, hm, hp => by
  have hN := h.n130
  have rng : ∀ x ∈ p ++ todo.drop o, 0 ≤ x ∧ x < N := by
   intro x hx
   rcases (hm x).1 hx with rfl | hx
   ·have := h.two; omega
   ·exact disc_range h hd x hx
  have hle := nodup_range N _ hnd rng
  rw [List.length_append, List.length_drop] at hle
  rw [flow_residual_search.L1]
  by_cases hq : o < todo.length
  ·have hu : todo[o] ∈ p ++ todo.drop o := by rw [List.mem_append]; right; rw [List.drop_eq_getElem_cons hq]; exact List.mem_cons_self ..
   have ru := rng _ hu
   have hall := (hm _).1 hu
   cases m with
   | zero => omega
   | succ m =>
    have e0 : ((o + (0 : Int).toNat : Nat) : Int) = (o : Int) := by simp
    rw [if_pos (by omega), chk_pos (by simp; omega), e0, idx_pos hq, show stps N A = tabG N (stpF A A.length) from rfl, idx_tabG ru.1 ru.2]
    have hlen := stpF_len A todo[o] A.length
    have hA := h.len
    have hdv := disc_len h hd
    have hdl := nodup_range N _ (List.nodup_append.1 hnd).2.1 (fun x hx => rng x (by rw [List.mem_append]; exact .inr hx))
    have hqv : (todo.drop o).length ≤ V.length + 1 := by
     have s1 : ∀ x ∈ todo.drop o, x ∈ 0 :: V.map (·.1) := fun x hx => by
      have := (hm x).1 (by rw [List.mem_append]; exact .inr hx)
      simpa using this
     have := (List.nodup_append.1 hnd).2.1
     have := List.Nodup.length_le_of_subset this s1
     simpa using this
    obtain ⟨cm', todo', W, o', g1, g2, g3, g4, g5, g6⟩ := search_L2 k N A f h hf todo[o] (fun v5_ v6_ v7_ => flow_residual_search.L1 k (N : Int) A f (stps N A) n v5_ v6_ v7_) (stpF A A.length todo[o])
     (fun s hs => mem_stpF.1 hs) (by omega) (stpF A A.length todo[o]).length 0 k o cm todo V (by omega) (by omega) hd hc hall hq hqv
    rw [show tabG N (stpF A A.length) = stps N A from rfl]
    rw [show (0 : Int) = ((0 : Nat) : Int) from rfl, g1]
    have hdrop : todo'.drop (o' + 1) = todo.drop (o + 1) ++ (W.map (·.1)).reverse := by
     rw [List.drop_eq_getElem_cons g4, List.drop_eq_getElem_cons hq, List.cons_append] at g5
     exact (List.cons.inj g5).2
    have hwd := (Mf.disc_nodup g2).1
    rw [List.map_append] at hwd
    have perm : (p ++ [todo[o]]) ++ todo'.drop (o' + 1) = (p ++ todo.drop o) ++ (W.map (·.1)).reverse := by
     rw [hdrop, List.drop_eq_getElem_cons hq]; simp [-List.getElem_cons_drop]
    refine search_L1 k N A f h hf hk m n (o' + 1) cm' todo' (W ++ V) (p ++ [todo[o]]) (by simp; omega) (by omega) g2 g3 (by omega) ?_ ?_ ?_
    ·rw [perm, List.nodup_append]
     refine ⟨hnd, List.pairwise_reverse.2 ((List.nodup_append.1 hwd).1.imp fun q => q.symm), fun a ha b hb => ?_⟩
     rw [List.mem_reverse] at hb
     rintro rfl
     rcases (hm a).1 ha with rfl | ha'
     ·obtain ⟨q, hq1, hq2⟩ := List.mem_map.1 hb
      exact (Mf.disc_mem g2 q (List.mem_append_left _ hq1)).1 hq2
     ·exact (List.nodup_append.1 hwd).2.2 a hb a ha' rfl
    ·intro x
     rw [perm, List.mem_append, hm x, List.mem_reverse, List.map_append, List.mem_append]
     constructor
     ·rintro ((z | z) | z)
      ·exact .inl z
      ·exact .inr (.inr z)
      ·exact .inr (.inl z)
     ·rintro (z | z | z)
      ·exact .inl (.inl z)
      ·exact .inr z
      ·exact .inl (.inr z)
    ·intro u hu' t t1 t2 t3
     rw [List.mem_append, List.mem_singleton] at hu'
     rcases hu' with hu' | rfl
     ·rcases hp u hu' t t1 t2 t3 with z | z
      ·exact .inl z
      ·right; rw [List.map_append, List.mem_append]; exact .inr z
     ·exact g6 (cvS t) (by rw [List.drop_zero]; exact mem_stpF.2 ⟨t, rfl, t1, t2⟩) t rfl t3
  ·have hdn : todo.drop o = [] := List.drop_eq_nil_of_le (by omega)
   rw [if_neg (by omega)]
   refine ⟨cm, V, rfl, hd, hc, fun s h1 h2 h3 => ?_⟩
   rw [ar_len] at h1
   have hx := (hm (Mf.stFr (ar A) s)).2 h2
   rw [hdn, List.append_nil] at hx
   exact hp _ hx s h1 rfl h3
theorem search_eq (k N : Nat) (A : List api_Arc) (f : List Int) (h : NV N A) (hf : FB A f) (hk : 2 * A.length < k) (hk2 : N < k) :
 ∃ (cm : List (Int × flow_step)) (V : Vs), flow_residual_search k (N : Int) A f (stps N A) = some cm ∧ Mf.Disc (ar A) f V ∧ Cm cm V ∧ Cpl (ar A) f V := by
 unfold flow_residual_search
 refine search_L1 k N A f h hf hk N k 0 _ [0] [] [] (by simp) hk2 trivial ?_ (by simp) (by simp) (by simp) (by simp)
 intro v
 rw [mget_put0]
 by_cases e : v = 0
 ·rw [if_pos e, if_pos e]
 ·rw [if_neg e, if_neg e]; rfl
end Go.TF
