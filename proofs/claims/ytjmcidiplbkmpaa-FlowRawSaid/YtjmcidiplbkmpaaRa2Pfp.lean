/- Plain laws: a flow is divided into ways. -/
import Derived.Test.YtjmcidiplbkmpaaRa2Pfl
set_option linter.unusedVariables false
set_option linter.unusedSimpArgs false
set_option maxRecDepth 100000
namespace Go.TF
open Go Go.Abs
theorem mgI_cons {β : Type} (a b : Int) (v : β) (m : List (Int × β)) : mgI ((a, v) :: m) b = if b = a then some 0 else (mgI m b).map (· + 1) := by
 unfold mgI
 rw [List.findIdx?_cons]
 by_cases e : b = a
 ·rw [if_pos e, if_pos (by simpa using e)]
 ·rw [if_neg e, if_neg (by simpa using e)]
theorem mget_cons {β : Type} (a b : Int) (v : β) (m : List (Int × β)) : mget ((a, v) :: m) b = if b = a then some v else mget m b := by
 unfold mget
 rw [mgI_cons]
 by_cases e : b = a
 ·rw [if_pos e, if_pos e]; rfl
 ·rw [if_neg e, if_neg e]
  cases mgI m b with
  | none => rfl
  | some j => simp
theorem mdel_cons {β : Type} (a b : Int) (v : β) (m : List (Int × β)) : mdel ((a, v) :: m) b = if b = a then m else (a, v) :: mdel m b := by
 unfold mdel
 rw [mgI_cons]
 by_cases e : b = a
 ·rw [if_pos e, if_pos e]; rfl
 ·rw [if_neg e, if_neg e]
  cases mgI m b with
  | none => rfl
  | some j => rfl
theorem mput_cons {β : Type} (a b : Int) (v w : β) (m : List (Int × β)) : mput ((a, v) :: m) b w = if b = a then (b, w) :: m else (a, v) :: mput m b w := by
 unfold mput
 rw [mgI_cons]
 by_cases e : b = a
 ·rw [if_pos e, if_pos e]; rfl
 ·rw [if_neg e, if_neg e]
  cases mgI m b with
  | none => rfl
  | some j => rfl
def KN {β : Type} (m : List (Int × β)) : Prop := (m.map (·.1)).Nodup
theorem mdel_mem {β : Type} (b : Int) : ∀ (m : List (Int × β)) (x : Int), x ∈ (mdel m b).map (·.1) → x ∈ m.map (·.1)
 | [], x, h => h
 | (a, v) :: m, x, h => by
  rw [mdel_cons] at h
  split at h
  ·exact List.mem_cons_of_mem _ h
  ·rw [List.map_cons, List.mem_cons] at h
   rcases h with h | h
   ·rw [h]; exact List.mem_cons_self
   ·exact List.mem_cons_of_mem _ (mdel_mem b m x h)
theorem mput_mem {β : Type} (b : Int) (w : β) : ∀ (m : List (Int × β)) (x : Int), x ∈ (mput m b w).map (·.1) → x ∈ m.map (·.1) ∨ x = b
 | [], x, h => by
  have : mput ([] : List (Int × β)) b w = [(b, w)] := rfl
  rw [this] at h
  simp at h; exact .inr h
 | (a, v) :: m, x, h => by
  rw [mput_cons] at h
  split at h
  ·rename_i e; subst e; exact .inl h
  ·rw [List.map_cons, List.mem_cons] at h
   rcases h with h | h
   ·rw [h]; exact .inl List.mem_cons_self
   ·rcases mput_mem b w m x h with z | z
    ·exact .inl (List.mem_cons_of_mem _ z)
    ·exact .inr z
theorem KN.del {β : Type} (b : Int) : ∀ {m : List (Int × β)}, KN m → KN (mdel m b)
 | [], h => h
 | (a, v) :: m, h => by
  unfold KN at h
  rw [List.map_cons, List.nodup_cons] at h
  rw [mdel_cons]
  split
  ·exact h.2
  ·unfold KN
   rw [List.map_cons, List.nodup_cons]
   exact ⟨fun z => h.1 (mdel_mem b m _ z), KN.del b h.2⟩
theorem KN.put {β : Type} (b : Int) (w : β) : ∀ {m : List (Int × β)}, KN m → KN (mput m b w)
 | [], h => by
  have : mput ([] : List (Int × β)) b w = [(b, w)] := rfl
  rw [this]; simp [KN]
 | (a, v) :: m, h => by
  have h' := h
  unfold KN at h
  rw [List.map_cons, List.nodup_cons] at h
  rw [mput_cons]
  split
  ·rename_i e; subst e; exact h'
  ·rename_i e
   unfold KN
   rw [List.map_cons, List.nodup_cons]
   refine ⟨fun z => ?_, KN.put b w h.2⟩
   rcases mput_mem b w m _ z with q | q
   ·exact h.1 q
   ·exact e q.symm
theorem mget_none {β : Type} : ∀ {m : List (Int × β)} {b : Int}, b ∉ m.map (·.1) → mget m b = none
 | [], b, _ => rfl
 | (a, v) :: m, b, h => by
  rw [List.map_cons, List.mem_cons] at h
  rw [mget_cons, if_neg (fun e => h (.inl e)), mget_none fun e => h (.inr e)]
theorem mget_del {β : Type} : ∀ {m : List (Int × β)} (_ : KN m) (a b : Int), mget (mdel m a) b = if b = a then none else mget m b
 | [], _, a, b => by split <;> rfl
 | (c, v) :: m, h, a, b => by
  unfold KN at h
  rw [List.map_cons, List.nodup_cons] at h
  rw [mdel_cons]
  by_cases e : a = c
  ·subst e
   rw [if_pos rfl, mget_cons]
   by_cases e2 : b = a
   ·subst e2
    rw [if_pos rfl]; exact mget_none h.1
   ·rw [if_neg e2, if_neg e2]
  ·rw [if_neg e, mget_cons, mget_cons, mget_del h.2 a b]
   by_cases e2 : b = c
   ·subst e2
    rw [if_pos rfl, if_neg (fun z => e z.symm), if_pos rfl]
   ·rw [if_neg e2, if_neg e2]
theorem mget_dels {β : Type} : ∀ (L : List Int) {m : List (Int × β)} (_ : KN m) (b : Int), KN (L.foldl mdel m) ∧ mget (L.foldl mdel m) b = if b ∈ L then none else mget m b
 | [], m, h, b => ⟨h, by simp⟩
 | a :: L, m, h, b => by
  have ih := mget_dels L (KN.del a h) b
  rw [List.foldl_cons]
  refine ⟨ih.1, ?_⟩
  rw [ih.2, mget_del h]
  by_cases e : b ∈ L
  ·rw [if_pos e, if_pos (List.mem_cons_of_mem _ e)]
  ·rw [if_neg e]
   by_cases e2 : b = a
   ·rw [if_pos e2, if_pos (e2 ▸ List.mem_cons_self)]
   ·rw [if_neg e2, if_neg (by rw [List.mem_cons]; rintro (z | z); exact e2 z; exact e z)]
def gA (A : List api_Arc) (a : Int) : api_Arc := A.getD a.toNat ⟨0, 0, 0⟩
theorem gA_nat {A : List api_Arc} {i : Nat} (h : i < A.length) : gA A (i : Int) = A[i] := by
 unfold gA
 rw [show ((i : Int)).toNat = i by omega, List.getD_eq_getElem?_getD, List.getElem?_eq_getElem h]; rfl
def nds (A : List api_Arc) (W : List Int) : List Int := 0 :: W.map fun a => (gA A a).To
theorem nds_len (A : List api_Arc) (W : List Int) : (nds A W).length = W.length + 1 := by simp [nds]
theorem nds_snoc (A : List api_Arc) (W : List Int) (a : Int) : nds A (W ++ [a]) = nds A W ++ [(gA A a).To] := by simp [nds]
theorem nds_take (A : List api_Arc) (W : List Int) (k : Nat) : nds A (W.take k) = (nds A W).take (k + 1) := by simp [nds, List.map_take]
structure Wy (A : List api_Arc) (W : List Int) (t : Int) : Prop where
 rng : ∀ a ∈ W, 0 ≤ a ∧ a < A.length
 nd : (nds A W).Nodup
 fr : ∀ j : Nat, j < W.length → (gA A (W.getD j 0)).From = (nds A W).getD j 0
 last : (nds A W).getD W.length 0 = t
theorem Wy.nil (A : List api_Arc) : Wy A [] 0 := ⟨by simp, by simp [nds], fun j h => absurd h (Nat.not_lt_zero _), rfl⟩
theorem idxOf_app1 {l l' : List Int} {a : Int} (h : a ∈ l) : (l ++ l').idxOf a = l.idxOf a := by
 induction l with
 | nil => cases h
 | cons b l ih =>
  rw [List.cons_append, List.idxOf_cons, List.idxOf_cons]
  by_cases e : b = a
  ·simp [e]
  ·rw [List.mem_cons] at h
   have e' : (b == a) = false := by simpa using e
   rw [e', ih (h.resolve_left (fun z => e z.symm))]
theorem idxOf_app2 {l l' : List Int} {a : Int} (h : a ∉ l) : (l ++ l').idxOf a = l.length + l'.idxOf a := by
 induction l with
 | nil => simp
 | cons b l ih =>
  rw [List.mem_cons] at h
  have e' : (b == a) = false := by simpa using fun z => h (.inl z.symm)
  rw [List.cons_append, List.idxOf_cons, e', ih (fun z => h (.inr z)), List.length_cons]
  simp; omega
theorem getD_app1 {l l' : List Int} {j : Nat} (h : j < l.length) : (l ++ l').getD j 0 = l.getD j 0 := by
 rw [List.getD_eq_getElem?_getD, List.getD_eq_getElem?_getD, List.getElem?_append_left h]
theorem getD_app2 {l : List Int} {x : Int} : (l ++ [x]).getD l.length 0 = x := by
 rw [List.getD_eq_getElem?_getD, List.getElem?_append_right (Nat.le_refl _)]; simp
theorem getD_take {l : List Int} {k j : Nat} (h : j < k) : (l.take k).getD j 0 = l.getD j 0 := by
 rw [List.getD_eq_getElem?_getD, List.getD_eq_getElem?_getD, List.getElem?_take, if_pos h]
theorem getD_mem {l : List Int} {j : Nat} (h : j < l.length) : l.getD j 0 ∈ l := by
 rw [List.getD_eq_getElem?_getD, List.getElem?_eq_getElem h]; exact List.getElem_mem h
theorem Wy.snoc {A : List api_Arc} {W : List Int} {t : Int} (hw : Wy A W t) {q : Nat} (hq : q < A.length) (hf : A[q].From = t) (hn : A[q].To ∉ nds A W) : Wy A (W ++ [(q : Int)]) A[q].To := by
 refine ⟨fun a ha => ?_, ?_, fun j hj => ?_, ?_⟩
 ·rcases List.mem_append.1 ha with ha | ha
  ·exact hw.rng a ha
  ·rw [List.mem_singleton] at ha; omega
 ·rw [nds_snoc, gA_nat hq, List.nodup_append]
  exact ⟨hw.nd, by simp, fun a ha b hb => by rw [List.mem_singleton] at hb; subst hb; intro e; exact hn (e ▸ ha)⟩
 ·rw [nds_snoc]
  have hj' : j < W.length + 1 := by simpa using hj
  rw [getD_app1 (l := nds A W) (by rw [nds_len]; omega)]
  by_cases e : j = W.length
  ·subst e
   rw [getD_app2, gA_nat hq, hf, hw.last]
  ·rw [getD_app1 (l := W) (by omega)]
   exact hw.fr j (by omega)
 ·rw [nds_snoc, gA_nat hq, show (W ++ [(q : Int)]).length = (nds A W).length by rw [nds_len]; simp, getD_app2]
theorem Wy.take {A : List api_Arc} {W : List Int} {t : Int} (hw : Wy A W t) {k : Nat} (hk : k ≤ W.length) : Wy A (W.take k) ((nds A W).getD k 0) := by
 have hl : (W.take k).length = k := by rw [List.length_take]; omega
 refine ⟨fun a ha => hw.rng a (List.mem_of_mem_take ha), ?_, fun j hj => ?_, ?_⟩
 ·rw [nds_take]; exact hw.nd.sublist (List.take_sublist _ _)
 ·rw [hl] at hj
  rw [nds_take, getD_take hj, getD_take (by omega)]
  exact hw.fr j (by omega)
 ·rw [hl, nds_take, getD_take (by omega)]
theorem Wy.len {N : Nat} {A : List api_Arc} (nv : NV N A) {W : List Int} {t : Int} (hw : Wy A W t) : W.length + 1 ≤ N := by
 have := nodup_range N (nds A W) hw.nd fun x hx => by
  have n2 := nv.two
  unfold nds at hx
  rw [List.mem_cons] at hx
  rcases hx with hx | hx
  ·omega
  ·obtain ⟨a, ha, rfl⟩ := List.mem_map.1 hx
   have r := hw.rng a ha
   have e : a = ((a.toNat : Nat) : Int) := by omega
   have ok := nv.ok _ (List.getElem_mem (show a.toNat < A.length by omega))
   rw [e, gA_nat (by omega)]; exact ⟨ok.2.2.1, ok.2.2.2.1⟩
 rw [nds_len] at this; exact this
def Mt (m : List (Int × Int)) (L : List Int) : Prop := KN m ∧ ∀ v, mget m v = if v ∈ L then some ((L.idxOf v : Nat) : Int) else none
theorem Mt.snoc {m : List (Int × Int)} {L : List Int} (h : Mt m L) {t : Int} (ht : t ∉ L) {n : Int} (hn : n = L.length) : Mt (mput m t n) (L ++ [t]) := by
 refine ⟨KN.put t n h.1, fun v => ?_⟩
 rw [mget_put0]
 by_cases e : v = t
 ·subst e
  rw [if_pos rfl, if_pos (by simp), idxOf_app2 ht, hn]; simp
 ·rw [if_neg e, h.2 v]
  by_cases e2 : v ∈ L
  ·rw [if_pos e2, if_pos (List.mem_append_left _ e2), idxOf_app1 e2]
  ·rw [if_neg e2, if_neg (by rw [List.mem_append, List.mem_singleton]; rintro (z | z); exact e2 z; exact e z)]
theorem Mt.cut {m : List (Int × Int)} {L : List Int} (h : Mt m L) (hn : L.Nodup) {k : Nat} (hk : k < L.length) : Mt (mput ((L.drop (k + 1) ++ [L.getD k 0]).foldl mdel m) (L.getD k 0) (k : Int)) (L.take (k + 1)) := by
 have d := fun v => mget_dels (L.drop (k + 1) ++ [L.getD k 0]) h.1 v
 have gk : L.getD k 0 = L[k] := by rw [List.getD_eq_getElem?_getD, List.getElem?_eq_getElem hk]; rfl
 have et : L.take (k + 1) = L.take k ++ [L[k]] := List.take_succ_eq_append_getElem hk
 have sp : L = L.take (k + 1) ++ L.drop (k + 1) := (List.take_append_drop _ _).symm
 have nt : L[k] ∉ L.take k := by
  have q := hn
  rw [sp, et] at q
  rw [List.nodup_append] at q
  have q := q.1
  rw [List.nodup_append] at q
  intro z
  exact q.2.2 _ z _ (List.mem_singleton.2 rfl) rfl
 refine ⟨KN.put _ _ (d 0).1, fun v => ?_⟩
 rw [mget_put0, (d v).2, h.2 v, gk, et]
 by_cases e : v = L[k]
 ·subst e
  rw [if_pos rfl, if_pos (List.mem_append_right _ (List.mem_singleton.2 rfl)), idxOf_app2 nt]
  simp; omega
 ·rw [if_neg e]
  by_cases e1 : v ∈ L.take k
  ·have n1 : v ∉ L.drop (k + 1) := by
    have q := hn
    rw [sp, et, List.nodup_append] at q
    intro z
    exact q.2.2 v (List.mem_append_left _ e1) v z rfl
   rw [if_neg (by rw [List.mem_append, List.mem_singleton]; rintro (z | z); exact n1 z; exact e z), if_pos (List.mem_of_mem_take e1), if_pos (List.mem_append_left _ e1), idxOf_app1 e1]
   congr 2
   conv => lhs; rw [sp, et, List.append_assoc]
   rw [idxOf_app1 e1]
  ·rw [if_neg (show ¬ v ∈ L.take k ++ [L[k]] by rw [List.mem_append, List.mem_singleton]; rintro (z | z); exact e1 z; exact e z)]
   by_cases e2 : v ∈ L.drop (k + 1)
   ·rw [if_pos (List.mem_append_left _ e2)]
   ·rw [if_neg (by rw [List.mem_append, List.mem_singleton]; rintro (z | z); exact e2 z; exact e z), if_neg]
    intro z
    rw [sp, et, List.mem_append, List.mem_append, List.mem_singleton] at z
    rcases z with (z | z) | z
    ·exact e1 z
    ·exact e z
    ·exact e2 z
theorem pIdx (k : Nat) (A : List api_Arc) (t : Int) (h9 : A.length ≤ 100000) (j : Nat) (hj : j < A.length) (ej : A[j].From = t) : ∀ (m i n : Nat), i + m = j → m < n → ∃ p : Nat, p ≤ j ∧ slices_IndexFunc_api_Arc_api_Arc_Paths_1.L1 k A t n (i : Int) = some (p : Int)
 | 0, i, n + 1, e, _ => by
  have : i = j := by omega
  subst this
  refine ⟨i, Nat.le_refl _, ?_⟩
  rw [slices_IndexFunc_api_Arc_api_Arc_Paths_1.L1, if_pos (by omega), idx_pos hj, flow_Paths_1, bnd1_some, if_pos (by simpa using ej)]
 | m + 1, i, n + 1, e, hn => by
  have hi : i < A.length := by omega
  rw [slices_IndexFunc_api_Arc_api_Arc_Paths_1.L1, if_pos (by omega), idx_pos hi, flow_Paths_1, bnd1_some]
  by_cases c : A[i].From = t
  ·rw [if_pos (by simpa using c)]
   exact ⟨i, by omega, rfl⟩
  ·rw [if_neg (by simpa using c), sc64 i (by omega)]
   exact pIdx k A t h9 j hj ej m (i + 1) n (by omega) (by omega)
theorem pL7 (k : Nat) (A : List api_Arc) (left W : List Int) (met : List (Int × Int)) (t : Int) (kb : List Int → List Int → List (Int × Int) → Int → Option ((List (List Int)) × Int)) (h9 : A.length ≤ 100000) (hl : left.length = A.length) (j : Nat) (hj : j < A.length) (hj' : j < left.length) (ej : A[j].From = t) (pj : 1 ≤ left[j]) : ∀ (m i n : Nat), i + m = j → m < n →
 ∃ (q : Nat) (hq : q < A.length) (hq' : q < left.length), A[q].From = t ∧ left[q] ≠ 0 ∧ flow_Paths.L7 k A left W met t kb n (i : Int) = flow_Paths.J3 k A left W met kb (q : Int)
 | 0, i, n + 1, e, _ => by
  have : i = j := by omega
  subst this
  refine ⟨i, hj, hj', ej, by omega, ?_⟩
  rw [flow_Paths.L7, if_pos (by omega), idx_pos hj, if_neg (by simpa using ej), chk_pos ⟨by omega, by omega⟩, idx_pos hj', if_neg (by omega)]
 | m + 1, i, n + 1, e, hn => by
  have hi : i < A.length := by omega
  have hi' : i < left.length := by omega
  have ih := pL7 k A left W met t kb h9 hl j hj hj' ej pj m (i + 1) n (by omega) (by omega)
  rw [flow_Paths.L7, if_pos (by omega), idx_pos hi]
  unfold flow_Paths.J8
  rw [sc64 i (by omega)]
  by_cases c : A[i].From = t
  ·rw [if_neg (by simpa using c), chk_pos ⟨by omega, by omega⟩, idx_pos hi']
   by_cases z : left[i] = 0
   ·rw [if_pos z]; exact ih
   ·rw [if_neg z]; exact ⟨i, hi, hi', c, z, rfl⟩
  ·rw [if_pos (by simpa using c)]; exact ih
theorem pL6 (k : Nat) (A : List api_Arc) (left W : List Int) (q : Int) (x : Int) (ar_ : api_Arc) (c : Nat) (kb : List Int → List Int → List (Int × Int) → Int → Option ((List (List Int)) × Int)) (h9 : A.length ≤ 100000) (hc : c ≤ (W ++ [q]).length) (c1 : 1 ≤ c) (hW : (W ++ [q]).length ≤ 100000) (hr : ∀ a ∈ W ++ [q], 0 ≤ a ∧ a < A.length) : ∀ (m i n : Nat) (met : List (Int × Int)), c + i + m = (W ++ [q]).length → m < n →
 flow_Paths.L6 k A left W q x ar_ (c : Int) kb n (i : Int) met = flow_Paths.J4 k left q x ar_ kb ((W ++ [q]).take c) ((((W ++ [q]).drop (c + i)).map fun a => (gA A a).To).foldl mdel met)
 | 0, i, n + 1, met, e, _ => by
  rw [flow_Paths.L6, if_neg (by omega), chk_pos ⟨by omega, by omega, by omega, by omega⟩, List.drop_of_length_le (by omega), show ((c : Int)).toNat = c by omega]; rfl
 | m + 1, i, n + 1, met, e, hn => by
  have hi : c + i < (W ++ [q]).length := by omega
  have r := hr _ (List.getElem_mem hi)
  have ih := pL6 k A left W q x ar_ c kb h9 hc c1 hW hr m (i + 1) n (mdel met (gA A (W ++ [q])[c + i]).To) (by omega) (by omega)
  have e1 : (W ++ [q])[c + i] = (((W ++ [q])[c + i].toNat : Nat) : Int) := by omega
  rw [flow_Paths.L6, if_pos (by omega), chk_pos ⟨by omega, by omega, by omega⟩, show ((((c : Int)).toNat + ((i : Int)).toNat : Nat) : Int) = ((c + i : Nat) : Int) by omega, idx_pos hi]
  generalize ha : (W ++ [q])[c + i] = a at *
  obtain ⟨b, rfl⟩ := Int.eq_ofNat_of_zero_le r.1
  have hb : b < A.length := by omega
  rw [idx_pos hb, sc64 i (by omega), List.drop_eq_getElem_cons hi, ha, List.map_cons, List.foldl_cons]
  rw [gA_nat hb] at ih ⊢
  exact ih
structure Lf (N : Nat) (A : List api_Arc) (f left W : List Int) (met : List (Int × Int)) (t r : Int) : Prop where
 len : left.length = A.length
 nn : ∀ (i : Nat) (h : i < left.length), 0 ≤ left[i]
 sur : ∀ v, Mf.sur (ar A) left v = r * (Mf.b2 (0 = v) - Mf.b2 (1 = v)) - (Mf.b2 (0 = v) - Mf.b2 (t = v))
 wy : Wy A W t
 mt : Mt met (nds A W)
 use : ∀ i : Nat, i < A.length → ((W.count (i : Int) : Nat) : Int) + left.getD i 0 ≤ f.getD i 0
theorem sm_one_nonneg (A : List Mf.Arc) : ∀ (f : List Int), (∀ (i : Nat) (h : i < f.length), 0 ≤ f[i]) → 0 ≤ Mf.sm A f fun _ => 1 := by
 induction A with
 | nil => intro f _; simp [Mf.sm_nil]
 | cons a A ih =>
  intro f h
  cases f with
  | nil => simp [Mf.sm]
  | cons x f =>
   rw [Mf.sm_cons]
   have := h 0 (by simp)
   have := ih f fun i hi => by have := h (i + 1) (by simpa using hi); simpa using this
   simp at *; omega
theorem count_take_le (a : Int) (l : List Int) (k : Nat) : (l.take k).count a ≤ l.count a := (List.take_sublist k l).count_le a
theorem pL2 (k N : Nat) (A : List api_Arc) (nv : NV N A) (f : List Int) (hf : ∀ i : Nat, f.getD i 0 ≤ 1048576) (r : Int) (hr : 1 ≤ r) (v9 : Int) (out : List (List Int)) (ho : out.length ≤ 5000000000) (hk : 1200 < k) (kb : Int → List Int → List (List Int) → Option ((List (List Int)) × Int)) : ∀ (m n : Nat) (left W : List Int) (met : List (Int × Int)) (t : Int), Lf N A f left W met t r → Mf.sm (ar A) left (fun _ => 1) ≤ m → m < n →
 ∃ left' W', flow_Paths.L2 k A v9 out kb n left W met t = kb (IntKind.wrap .i64 (v9 + 1)) left' (out ++ [W']) ∧ left'.length = A.length ∧ (∀ (i : Nat) (h : i < left'.length), 0 ≤ left'[i]) ∧ (∀ v, Mf.sur (ar A) left' v = (r - 1) * (Mf.b2 (0 = v) - Mf.b2 (1 = v))) ∧ Wy A W' 1 ∧ (∀ i : Nat, i < A.length → ((W'.count (i : Int) : Nat) : Int) + left'.getD i 0 ≤ f.getD i 0) := by
 intro m
 induction m with
 | zero =>
  intro n left W met t L hm hn
  obtain ⟨n, rfl⟩ : ∃ j, n = j + 1 := ⟨n - 1, by omega⟩
  have hA := nv.len
  have wl := L.wy.len nv
  have n130 := nv.n130
  rw [flow_Paths.L2]
  by_cases c : t = 1
  ·subst c
   refine ⟨left, W, ?_, L.len, L.nn, fun v => ?_, L.wy, L.use⟩
   ·rw [if_neg (by omega), slices_Clone_int_int_f, chk_pos (by omega), bnd1_some, chk_pos (by simp only [List.length_cons, List.length_nil]; omega)]
   ·rw [L.sur v, Int.sub_mul]; omega
  ·exfalso
   have s1 : 1 ≤ Mf.sur (ar A) left t := by
    rw [L.sur t]
    unfold Mf.b2
    by_cases z : t = 0
    ·subst z; simp; omega
    ·rw [if_neg (fun e => z e.symm), if_neg (fun e => c e.symm), if_pos rfl]; omega
   obtain ⟨j, j1, j2, j3⟩ := Mf.out_arc t (by rw [ar_len]; exact L.len) L.nn s1
   rw [ar_len] at j1
   have hj : j < left.length := by rw [L.len]; exact j1
   have q := Mf.sm_set (ar A) (fun _ => 1) (-1) left j (by rw [ar_len]; exact j1) hj
   have q2 := sm_one_nonneg (ar A) (left.set j (left[j] + -1)) (fun i hi => by
    rw [List.getElem_set]
    split
    ·rw [List.getD_eq_getElem?_getD, List.getElem?_eq_getElem hj] at j3; simp only [Option.getD_some] at j3; omega
    ·exact L.nn i (by simpa using hi))
   rw [q] at q2; omega
 | succ m ih =>
  intro n left W met t L hm hn
  obtain ⟨n, rfl⟩ : ∃ j, n = j + 1 := ⟨n - 1, by omega⟩
  have hA := nv.len
  have wl := L.wy.len nv
  have n130 := nv.n130
  rw [flow_Paths.L2]
  by_cases c : t = 1
  ·subst c
   refine ⟨left, W, ?_, L.len, L.nn, fun v => ?_, L.wy, L.use⟩
   ·rw [if_neg (by omega), slices_Clone_int_int_f, chk_pos (by omega), bnd1_some, chk_pos (by simp only [List.length_cons, List.length_nil]; omega)]
   ·rw [L.sur v, Int.sub_mul]; omega
  ·have s1 : 1 ≤ Mf.sur (ar A) left t := by
    rw [L.sur t]
    unfold Mf.b2
    by_cases z : t = 0
    ·subst z; simp; omega
    ·rw [if_neg (fun e => z e.symm), if_neg (fun e => c e.symm), if_pos rfl]; omega
   obtain ⟨j, j1, j2, j3⟩ := Mf.out_arc t (by rw [ar_len]; exact L.len) L.nn s1
   rw [ar_len] at j1
   rw [ar_arc j1] at j2
   have hj : j < left.length := by rw [L.len]; exact j1
   have j4 : 1 ≤ left[j] := by rw [List.getD_eq_getElem?_getD, List.getElem?_eq_getElem hj] at j3; simpa using j3
   obtain ⟨p, p1, p2⟩ := pIdx k A t (by omega) j j1 j2 j 0 k (by omega) (by omega)
   have p2 : slices_IndexFunc_api_Arc_api_Arc_Paths_1 k A t = some (p : Int) := p2
   obtain ⟨q, hq, hq', q1, q2, q3⟩ := pL7 k A left W met t (fun v12_ v13_ v14_ v15_ => flow_Paths.L2 k A v9 out kb n v12_ v13_ v14_ v15_) (by omega) L.len j j1 hj j2 j4 (j - p) p k (by omega) (by omega)
   have ok := nv.ok _ (List.getElem_mem hq)
   have lq := L.nn q hq'
   have ub : left[q] ≤ 1048576 := by
    have u := L.use q hq
    have u2 := hf q
    rw [List.getD_eq_getElem?_getD, List.getElem?_eq_getElem hq', Option.getD_some] at u
    omega
   rw [if_pos c, p2, bnd1_some, q3]
   unfold flow_Paths.J3
   rw [chk_pos ⟨by omega, by omega⟩, idx_pos hq', chk_pos ⟨by omega, by omega⟩, chk_pos (by simp only [List.length_cons, List.length_nil]; omega), idx_pos hq]
   -- the next state
   have setlen : (left.set q (left[q] + -1)).length = A.length := by rw [List.length_set]; exact L.len
   have nn' : ∀ (i : Nat) (h : i < (left.set q (left[q] + -1)).length), 0 ≤ (left.set q (left[q] + -1))[i] := by
    intro i hi
    rw [List.getElem_set]
    split
    ·omega
    ·exact L.nn i (by simpa using hi)
   have sur' : ∀ v, Mf.sur (ar A) (left.set q (left[q] + -1)) v = r * (Mf.b2 (0 = v) - Mf.b2 (1 = v)) - (Mf.b2 (0 = v) - Mf.b2 (A[q].To = v)) := by
    intro v
    have a := Mf.sur_set (ar A) left v (-1) q (by rw [ar_len]; exact hq) hq'
    rw [a, L.sur v]
    have : (ar A)[q]'(by rw [ar_len]; exact hq) = ⟨A[q].From, A[q].To, A[q].Cap⟩ := by simp [ar]
    rw [this, ← q1]; simp only []; omega
   have less : Mf.sm (ar A) (left.set q (left[q] + -1)) (fun _ => 1) ≤ m := by
    rw [Mf.sm_set (ar A) (fun _ => 1) (-1) left q (by rw [ar_len]; exact hq) hq']; omega
   have get' : ∀ i : Nat, i < A.length → (left.set q (left[q] + -1)).getD i 0 = left.getD i 0 - if i = q then 1 else 0 := by
    intro i hi
    rw [List.getD_eq_getElem?_getD, List.getD_eq_getElem?_getD, List.getElem?_set]
    by_cases e : q = i
    ·subst e
     rw [if_pos rfl, if_pos hq', if_pos rfl, List.getElem?_eq_getElem hq']; simp only [Option.getD_some]; omega
    ·rw [if_neg e, if_neg (fun z => e z.symm), Int.sub_zero]
   have w1 : IntKind.wrap .i64 (left[q] - 1) = left[q] + -1 := by rw [w64 (by omega) (by omega)]; omega
   have done : ∀ (W'' : List Int) (met'' : List (Int × Int)), Wy A W'' A[q].To → Mt (mput met'' A[q].To (W''.length : Int)) (nds A W'') → (∀ i : Nat, i < A.length → ((W''.count (i : Int) : Nat) : Int) + (left.set q (left[q] + -1)).getD i 0 ≤ f.getD i 0) →
    ∃ left' W', flow_Paths.J4 k left (q : Int) left[q] A[q] (fun v12_ v13_ v14_ v15_ => flow_Paths.L2 k A v9 out kb n v12_ v13_ v14_ v15_) W'' met'' = kb (IntKind.wrap .i64 (v9 + 1)) left' (out ++ [W']) ∧ left'.length = A.length ∧ (∀ (i : Nat) (h : i < left'.length), 0 ≤ left'[i]) ∧ (∀ v, Mf.sur (ar A) left' v = (r - 1) * (Mf.b2 (0 = v) - Mf.b2 (1 = v))) ∧ Wy A W' 1 ∧ (∀ i : Nat, i < A.length → ((W'.count (i : Int) : Nat) : Int) + left'.getD i 0 ≤ f.getD i 0) := by
    intro W'' met'' h1 h2 h3
    unfold flow_Paths.J4
    rw [w1, show ((q : Int)).toNat = q by omega]
    exact ih n _ W'' _ _ ⟨setlen, nn', sur', h1, h2, h3⟩ less (by omega)
   have cnt1 : ∀ i : Nat, i < A.length → (((W ++ [(q : Int)]).count (i : Int) : Nat) : Int) + (left.set q (left[q] + -1)).getD i 0 ≤ f.getD i 0 := by
    intro i hi
    have u := L.use i hi
    rw [get' i hi, List.count_append]
    by_cases e : i = q
    ·subst e
     have : [(i : Int)].count (i : Int) = 1 := by simp
     rw [if_pos rfl, this]; omega
    ·rw [if_neg e]
     have : [(q : Int)].count (i : Int) = 0 := by rw [List.count_eq_zero]; simp; omega
     rw [this]; omega
   rw [L.mt.2 A[q].To]
   by_cases seen : A[q].To ∈ nds A W
   ·rw [if_pos seen]
    have il : (nds A W).idxOf A[q].To < (nds A W).length := List.idxOf_lt_length_of_mem seen
    have ig : (nds A W).getD ((nds A W).idxOf A[q].To) 0 = A[q].To := by
     rw [List.getD_eq_getElem?_getD, List.getElem?_eq_getElem il]; simp
    have i0 : (nds A W).idxOf A[q].To ≠ 0 := by
     intro z
     have z2 := ig
     rw [z] at z2
     have : (nds A W).getD 0 0 = 0 := rfl
     exact ok.2.2.2.2.2.1 (by omega)
    generalize hc : (nds A W).idxOf A[q].To = ci at *
    rw [nds_len] at il
    simp only [opt2]
    unfold flow_Paths.J5
    rw [if_pos rfl, chk_pos ⟨by simp, by omega, by simp; omega⟩]
    have l6 := pL6 k A left W (q : Int) left[q] A[q] ci (fun v12_ v13_ v14_ v15_ => flow_Paths.L2 k A v9 out kb n v12_ v13_ v14_ v15_) (by omega) (by simp; omega) (by omega) (by simp; omega) (fun a ha => by
     rcases List.mem_append.1 ha with ha | ha
     ·exact L.wy.rng a ha
     ·rw [List.mem_singleton] at ha; omega) ((W ++ [(q : Int)]).length - ci) 0 k met (by simp; omega) (by simp; omega)
    rw [show (0 : Int) = ((0 : Nat) : Int) from rfl, l6]
    have t1 : (W ++ [(q : Int)]).take ci = W.take ci := List.take_append_of_le_length (by omega)
    have t2 : ((W ++ [(q : Int)]).drop (ci + 0)).map (fun a => (gA A a).To) = (nds A W).drop (ci + 1) ++ [(nds A W).getD ci 0] := by
     rw [Nat.add_zero, List.drop_append_of_le_length (by omega), List.map_append, ig]
     simp [nds, gA_nat hq]
    rw [t1, t2]
    have wt := L.wy.take (k := ci) (by omega)
    rw [ig] at wt
    refine done _ _ wt ?_ fun i hi => ?_
    ·have := L.mt.cut L.wy.nd (k := ci) (by rw [nds_len]; omega)
     rw [nds_take, show ((W.take ci).length : Int) = (ci : Int) by rw [List.length_take]; omega]
     rw [ig] at this ⊢; exact this
    ·have := cnt1 i hi
     have c1 := count_take_le (i : Int) W ci
     have c2 : W.count (i : Int) ≤ (W ++ [(q : Int)]).count (i : Int) := by rw [List.count_append]; omega
     omega
   ·rw [if_neg seen]
    simp only [opt2]
    unfold flow_Paths.J5
    rw [if_neg (by simp)]
    refine done _ _ (L.wy.snoc hq q1 seen) ?_ cnt1
    rw [nds_snoc, gA_nat hq]
    exact L.mt.snoc seen (by rw [nds_len]; simp)
def cntW (out : List (List Int)) (a : Int) : Nat := out.flatten.count a
theorem pL1 (k N : Nat) (A : List api_Arc) (nv : NV N A) (f : List Int) (hf : ∀ i : Nat, f.getD i 0 ≤ 1048576) (hk : 1200 < k) (hk3 : A.length * 1048576 < k) (V : Nat) (hV : V ≤ 4000000000) : ∀ (m i n : Nat) (left : List Int) (out : List (List Int)), i + m = V → m < n → out.length = i → (∀ W ∈ out, Wy A W 1) → left.length = A.length → (∀ (i : Nat) (h : i < left.length), 0 ≤ left[i]) →
 (∀ v, Mf.sur (ar A) left v = (m : Int) * (Mf.b2 (0 = v) - Mf.b2 (1 = v))) → (∀ j : Nat, j < A.length → ((cntW out (j : Int) : Nat) : Int) + left.getD j 0 ≤ f.getD j 0) →
 ∃ out', flow_Paths.L1 k A (V : Int) n (i : Int) left out = some (out', 0) ∧ out'.length = V ∧ (∀ W ∈ out', Wy A W 1) ∧ (∀ j : Nat, j < A.length → ((cntW out' (j : Int) : Nat) : Int) ≤ f.getD j 0)
 | 0, i, n + 1, left, out, e, _, ho, hw, hl, nn, hs, hu => by
  refine ⟨out, ?_, by omega, hw, fun j hj => ?_⟩
  ·rw [flow_Paths.L1, if_neg (by omega)]
  ·have u := hu j hj
   have := nn j (by omega)
   rw [List.getD_eq_getElem?_getD, List.getElem?_eq_getElem (show j < left.length by omega), Option.getD_some] at u
   omega
 | m + 1, i, n + 1, left, out, e, hn, ho, hw, hl, nn, hs, hu => by
  have hA := nv.len
  -- the bound of the rounds
  have tot : Mf.sm (ar A) left (fun _ => 1) ≤ ((A.length * 1048576 : Nat) : Int) := by
   have : ∀ (A : List Mf.Arc) (l : List Int), (∀ x ∈ l, x ≤ 1048576) → Mf.sm A l (fun _ => 1) ≤ A.length * 1048576 := by
    intro A
    induction A with
    | nil => intro l _; simp [Mf.sm_nil]
    | cons a A ih =>
     intro l h
     cases l with
     | nil => rw [Mf.sm_nil']; omega
     | cons x l =>
      rw [Mf.sm_cons]
      have := h x List.mem_cons_self
      have := ih l fun y hy => h y (List.mem_cons_of_mem _ hy)
      simp only [List.length_cons]; omega
   have := this (ar A) left fun x hx => by
    obtain ⟨j, hj, rfl⟩ := List.mem_iff_getElem.1 hx
    have u := hu j (by omega)
    have := hf j
    rw [List.getD_eq_getElem?_getD, List.getElem?_eq_getElem hj, Option.getD_some] at u
    omega
   rw [ar_len] at this; omega
  have L : Lf N A left left [] (mput ([] : List (Int × Int)) 0 0) 0 ((m : Int) + 1) := by
   refine ⟨hl, nn, fun v => ?_, Wy.nil A, ⟨by simp [KN, mput, mgI], fun v => ?_⟩, fun j hj => by simp⟩
   ·rw [hs v]; simp only [Int.sub_self, Int.sub_zero]; congr 1
   ·rw [mget_put0]
    have e0 : nds A [] = [0] := rfl
    rw [e0]
    by_cases z : v = 0
    ·subst z; simp
    ·rw [if_neg z, if_neg (by simpa using z)]; rfl
  have hf' : ∀ i : Nat, left.getD i 0 ≤ 1048576 := by
   intro j
   by_cases hj : j < A.length
   ·have := hu j hj; have := hf j; omega
   ·rw [List.getD_eq_getElem?_getD, List.getElem?_eq_none (by omega)]; simp
  obtain ⟨left', W', e1, e2, e3, e4, e5, e6⟩ := pL2 k N A nv left hf' ((m : Int) + 1) (by omega) (i : Int) out (by omega) hk (fun v9_ v10_ v11_ => flow_Paths.L1 k A (V : Int) n v9_ v10_ v11_) (A.length * 1048576) k left [] _ 0 L tot hk3
  rw [flow_Paths.L1, if_pos (by omega), e1, sc64 i (by omega)]
  refine pL1 k N A nv f hf hk hk3 V hV m (i + 1) n left' (out ++ [W']) (by omega) (by omega) (by simp; exact ho) (fun W hW => ?_) e2 e3 (fun v => ?_) (fun j hj => ?_)
  ·rcases List.mem_append.1 hW with hW | hW
   ·exact hw W hW
   ·rw [List.mem_singleton] at hW; subst hW; exact e5
  ·rw [e4 v, show (m : Int) + 1 - 1 = (m : Int) by omega]
  ·have a := e6 j hj
   have b := hu j hj
   have c : cntW (out ++ [W']) (j : Int) = cntW out (j : Int) + W'.count (j : Int) := by unfold cntW; rw [List.flatten_append, List.count_append]; simp
   rw [c]; omega
structure PW (A : List api_Arc) (f : List Int) (out : List (List Int)) (V : Int) : Prop where
 len : (out.length : Int) = V
 wy : ∀ W ∈ out, Wy A W 1
 use : ∀ j : Nat, j < A.length → ((cntW out (j : Int) : Nat) : Int) ≤ f.getD j 0
theorem fPaths_eq (k N : Nat) (A : List api_Arc) (f : List Int) (nv : NV N A) (fl : Mf.Flow N (ar A) f) (h0 : 0 ≤ Mf.val (ar A) f) (hk : 1300 < k) (hk3 : A.length * 1048576 < k) : ∃ out, flow_Paths k (N : Int) A f = some (out, 0) ∧ PW A f out (Mf.val (ar A) f) := by
 have hA := nv.len
 have vb := val_bound nv f fl
 have hl := fl.len
 rw [ar_len] at hl
 have fb := FB.of fl
 obtain ⟨V, hV⟩ := Int.eq_ofNat_of_zero_le h0
 unfold flow_Paths
 rw [fCheck_eq k N A (by omega), bnd1_some, (chkN_iff _ _).2 ⟨N, rfl, nv⟩, if_neg (by simp), fValid_eq k N A f hk, bnd1_some, (flB_iff _ _ _).2 ⟨N, rfl, nv, fl⟩, if_neg (by simp), sClone_eq k f (by omega), bnd1_some, fValue_flow k N A f nv fl hk, bnd1_some, hV]
 have hf : ∀ i : Nat, f.getD i 0 ≤ 1048576 := by
  intro j
  by_cases hj : j < f.length
  ·rw [List.getD_eq_getElem?_getD, List.getElem?_eq_getElem hj, Option.getD_some]
   have := fb.hi j hj (by omega)
   have := (nv.ok _ (List.getElem_mem (show j < A.length by omega))).2.2.2.2.2.2.2.2
   omega
  ·rw [List.getD_eq_getElem?_getD, List.getElem?_eq_none (by omega)]; simp
 have sur : ∀ v, Mf.sur (ar A) f v = (V : Int) * (Mf.b2 (0 = v) - Mf.b2 (1 = v)) := by
  intro v
  unfold Mf.b2
  by_cases z0 : 0 = v
  ·subst z0
   have : Mf.sur (ar A) f 0 = (V : Int) := hV
   rw [this, if_pos rfl, if_neg (by omega)]; omega
  ·rw [if_neg z0]
   by_cases z1 : 1 = v
   ·subst z1
    rw [if_pos rfl]
    have a := Mf.val_side nv.net fl (fun v => decide (v ≠ 1)) (by simp) (by simp)
    rw [Mf.sm_congr (w' := fun a => -1 * (Mf.b2 (a.fr = 1) - Mf.b2 (a.to = 1))) (fun a _ => by
     unfold Mf.b2
     by_cases z : a.fr = 1 <;> by_cases z' : a.to = 1 <;> simp [z, z']) f, Mf.sm_mul] at a
    have a : Mf.val (ar A) f = -1 * Mf.sur (ar A) f 1 := a
    omega
   ·rw [if_neg z1, fl.zero v (fun e => z0 e.symm) (fun e => z1 e.symm)]; omega
 obtain ⟨out, o1, o2, o3, o4⟩ := pL1 k N A nv f hf (by omega) hk3 V (by omega) V 0 k f [] (by omega) (by omega) rfl (by simp) hl fb.lo sur (fun j hj => by simp [cntW])
 exact ⟨out, o1, ⟨by omega, o3, o4⟩⟩
theorem sm_nonneg {w : Mf.Arc → Int} : ∀ {A : List Mf.Arc} {f : List Int}, (∀ a ∈ A, 0 ≤ w a) → (∀ (i : Nat) (h : i < f.length), 0 ≤ f[i]) → 0 ≤ Mf.sm A f w
 | [], f, _, _ => by rw [Mf.sm_nil]; exact Int.le_refl _
 | a :: A, [], _, _ => by rw [Mf.sm_nil']; exact Int.le_refl _
 | a :: A, x :: f, h1, h2 => by
  rw [Mf.sm_cons]
  have := h2 0 (by simp)
  have p := Int.mul_nonneg (h1 a List.mem_cons_self) this
  have q := sm_nonneg (A := A) (f := f) (fun b hb => h1 b (List.mem_cons_of_mem _ hb)) fun i hi => by have := h2 (i + 1) (by simpa using hi); simpa using this
  simp only [List.getElem_cons_zero] at p
  omega
theorem val_nonneg {N : Nat} {A : List api_Arc} {f : List Int} (nv : NV N A) (fl : Mf.Flow N (ar A) f) : 0 ≤ Mf.val (ar A) f := by
 unfold Mf.val Mf.sur
 refine sm_nonneg (fun a ha => ?_) fl.lo
 have := nv.net.src a ha
 unfold Mf.b2
 rw [if_neg this]; split <;> omega
theorem oL3 (k : Nat) (f : List Int) (v9 : Int) (n0 : Nat) (g : Int → Int) (met : List Int) (q : Nat) (arc : api_Arc) (kb : Int → Int → List Int → List Int → Option Bool) (h9 : met.length ≤ 100000) (hm : arc.To ∉ met) (hq : q < n0) (hqf : q < f.length) (g0 : 0 ≤ g q) (g1 : g q + 1 ≤ f[q]) (g2 : g q ≤ 1000000000000) : ∀ (m i n : Nat), i + m = met.length → m < n →
 ref15_PathsOK.L3 k f v9 (tabG n0 g) met (q : Int) arc kb n (i : Int) = kb arc.To (IntKind.wrap .i64 (v9 + 1)) (tabG n0 fun v => if v = (q : Int) then g q + 1 else g v) (met ++ [arc.To])
 | 0, i, n + 1, e, _ => by
  rw [ref15_PathsOK.L3, if_neg (by omega), chk_pos (by simp only [List.length_cons, List.length_nil]; omega), chk_pos (by rw [tabG_len]; omega), idx_tabG (by omega) (by omega), chk_pos (by rw [tabG_len]; omega), w64 (n := g (q : Int) + 1) (by omega) (by omega), tabG_set (by omega), chk_pos (by rw [tabG_len]; omega), idx_tabG (by omega) (by omega), if_pos rfl, idx_pos hqf, if_neg (by omega)]
 | m + 1, i, n + 1, e, hn => by
  have hi : i < met.length := by omega
  rw [ref15_PathsOK.L3, if_pos (by omega), chk_pos ⟨by omega, by omega⟩, idx_pos hi, if_neg (fun z => hm (by rw [← z]; exact List.getElem_mem hi)), sc64 i (by omega)]
  exact oL3 k f v9 n0 g met q arc kb h9 hm hq hqf g0 g1 g2 m (i + 1) n (by omega) (by omega)
theorem oL2 (k N : Nat) (A : List api_Arc) (nv : NV N A) (f : List Int) (hl : f.length = A.length) (hf : ∀ i : Nat, f.getD i 0 ≤ 1048576) (hk : 1300 < k) (out : List (List Int)) (i : Nat) (hi : i < out.length) (hw : Wy A out[i] 1) (hu : ∀ j : Nat, j < A.length → ((cntW (out.take i) (j : Int) : Nat) : Int) + ((out[i].count (j : Int) : Nat) : Int) ≤ f.getD j 0) (kb : Int → List Int → Option Bool) : ∀ (m j n : Nat), j + m = out[i].length → m < n →
 ref15_PathsOK.L2 k A f out (i : Int) kb n ((nds A out[i]).getD j 0) (j : Int) (tabG A.length fun v => ((cntW (out.take i) v : Nat) : Int) + (((out[i].take j).count v : Nat) : Int)) ((nds A out[i]).take (j + 1)) = kb (IntKind.wrap .i64 ((i : Int) + 1)) (tabG A.length fun v => ((cntW (out.take i) v : Nat) : Int) + ((out[i].count v : Nat) : Int))
 | 0, j, n + 1, e, _ => by
  have : j = out[i].length := by omega
  subst this
  rw [ref15_PathsOK.L2, idx_pos hi, if_neg (by omega), hw.last, if_neg (by omega), List.take_of_length_le (Nat.le_refl _)]
 | m + 1, j, n + 1, e, hn => by
  have hj : j < out[i].length := by omega
  have wl := hw.len nv
  have n130 := nv.n130
  have hA := nv.len
  have r := hw.rng _ (List.getElem_mem hj)
  have ih := oL2 k N A nv f hl hf hk out i hi hw hu kb m (j + 1) n (by omega) (by omega)
  have fr := hw.fr j hj
  have tk : out[i].take (j + 1) = out[i].take j ++ [out[i][j]] := List.take_succ_eq_append_getElem hj
  have nj : (nds A out[i]).getD (j + 1) 0 = (gA A out[i][j]).To := by
   unfold nds
   rw [List.getD_cons_succ, List.getD_eq_getElem?_getD, List.getElem?_map, List.getElem?_eq_getElem hj]; rfl
  have ntk : (nds A out[i]).take (j + 1 + 1) = (nds A out[i]).take (j + 1) ++ [(nds A out[i]).getD (j + 1) 0] := by
   have hlt : j + 1 < (nds A out[i]).length := by rw [nds_len]; omega
   rw [List.take_succ_eq_append_getElem hlt, List.getD_eq_getElem?_getD, List.getElem?_eq_getElem hlt]; rfl
  have nin : (nds A out[i]).getD (j + 1) 0 ∉ (nds A out[i]).take (j + 1) := by
   have q := hw.nd.sublist (List.take_sublist (j + 1 + 1) _)
   rw [ntk, List.nodup_append] at q
   intro z
   exact q.2.2 _ z _ (List.mem_singleton.2 rfl) rfl
  have gd : out[i].getD j 0 = out[i][j] := by rw [List.getD_eq_getElem?_getD, List.getElem?_eq_getElem hj]; rfl
  rw [gd] at fr
  rw [nj] at ntk nin ih
  have cl := count_take_le out[i][j] out[i] (j + 1)
  rw [tk, List.count_append] at cl
  have c1 : [out[i][j]].count out[i][j] = 1 := by simp
  rw [c1] at cl
  rw [ref15_PathsOK.L2, idx_pos hi, if_pos (by omega), idx_pos hj, if_neg (by omega), if_neg (by omega)]
  rw [tk] at ih
  generalize ha : out[i][j] = a at *
  obtain ⟨q, rfl⟩ := Int.eq_ofNat_of_zero_le r.1
  have hq : q < A.length := by omega
  have hqf : q < f.length := by omega
  rw [gA_nat hq] at fr nj ntk nin ih
  have u := hu q hq
  have u2 := hf q
  rw [List.getD_eq_getElem?_getD, List.getElem?_eq_getElem hqf, Option.getD_some] at u u2
  rw [idx_pos hq, if_neg (by rw [fr]; simp), show (0 : Int) = ((0 : Nat) : Int) from rfl]
  have l3 := oL3 k f (j : Int) A.length (fun v => ((cntW (out.take i) v : Nat) : Int) + (((out[i].take j).count v : Nat) : Int)) ((nds A out[i]).take (j + 1)) q A[q] (fun v8_ v9_ v10_ v11_ => ref15_PathsOK.L2 k A f out (i : Int) kb n v8_ v9_ v10_ v11_) (by rw [List.length_take, nds_len]; omega) nin hq hqf (by omega) (by omega) (by omega) ((nds A out[i]).take (j + 1)).length 0 k (by omega) (by rw [List.length_take, nds_len]; omega)
  refine Eq.trans l3 ?_
  rw [sc64 j (by omega), ← ntk, ← ih]
  congr 2
  funext v
  rw [List.count_append]
  by_cases e1 : v = (q : Int)
  ·subst e1
   rw [if_pos rfl, c1]; omega
  ·rw [if_neg e1]
   have : [(q : Int)].count v = 0 := by rw [List.count_eq_zero, List.mem_singleton]; exact e1
   rw [this]; omega
theorem cnt_split (out : List (List Int)) (i : Nat) (hi : i < out.length) (a : Int) : cntW (out.take (i + 1)) a = cntW (out.take i) a + out[i].count a := by
 unfold cntW
 rw [List.take_succ_eq_append_getElem hi, List.flatten_append, List.count_append]; simp
theorem cnt_le (out : List (List Int)) (i : Nat) (a : Int) : cntW (out.take i) a ≤ cntW out a := by
 unfold cntW
 conv => rhs; rw [← List.take_append_drop i out, List.flatten_append, List.count_append]
 omega
theorem oL1 (k N : Nat) (A : List api_Arc) (nv : NV N A) (f : List Int) (hl : f.length = A.length) (hf : ∀ i : Nat, f.getD i 0 ≤ 1048576) (hk : 1300 < k) (out : List (List Int)) (h9 : out.length ≤ 5000000000) (hw : ∀ W ∈ out, Wy A W 1) (hu : ∀ j : Nat, j < A.length → ((cntW out (j : Int) : Nat) : Int) ≤ f.getD j 0) : ∀ (m i n : Nat), i + m = out.length → m < n →
 ref15_PathsOK.L1 k A f out n (i : Int) (tabG A.length fun v => ((cntW (out.take i) v : Nat) : Int)) = some true
 | 0, i, n + 1, e, _ => by rw [ref15_PathsOK.L1, if_neg (by omega)]
 | m + 1, i, n + 1, e, hn => by
  have hi : i < out.length := by omega
  have w := hw _ (List.getElem_mem hi)
  have wl := w.len nv
  have n130 := nv.n130
  have l2 := oL2 k N A nv f hl hf hk out i hi w (fun j hj => by
   have a := hu j hj
   have b := cnt_le out (i + 1) (j : Int)
   rw [cnt_split out i hi] at b
   omega) (fun v6_ v7_ => ref15_PathsOK.L1 k A f out n v6_ v7_) out[i].length 0 k (by omega) (by omega)
  have ih := oL1 k N A nv f hl hf hk out h9 hw hu m (i + 1) n (by omega) (by omega)
  rw [ref15_PathsOK.L1, if_pos (by omega)]
  have e1 : (tabG A.length fun v => ((cntW (out.take i) v : Nat) : Int)) = tabG A.length fun v => ((cntW (out.take i) v : Nat) : Int) + (((out[i].take 0).count v : Nat) : Int) := by
   congr 1
  have e2 : (nds A out[i]).take (0 + 1) = [0] := rfl
  rw [e2] at l2
  rw [e1]
  refine Eq.trans l2 ?_
  rw [sc64 i (by omega), ← ih]
  congr 2
  funext v
  rw [cnt_split out i hi]; omega
theorem rPaths_ok (k N : Nat) (A : List api_Arc) (nv : NV N A) (f : List Int) (fl : Mf.Flow N (ar A) f) (hk : 1300 < k) (out : List (List Int)) (pw : PW A f out (Mf.val (ar A) f)) (hko : out.length < k) (h9 : out.length ≤ 5000000000) : ref15_PathsOK k (N : Int) A f out = some true := by
 have hA := nv.len
 have hl := fl.len
 rw [ar_len] at hl
 have fb := FB.of fl
 have hf : ∀ i : Nat, f.getD i 0 ≤ 1048576 := by
  intro j
  by_cases hj : j < f.length
  ·rw [List.getD_eq_getElem?_getD, List.getElem?_eq_getElem hj, Option.getD_some]
   have := fb.hi j hj (by omega)
   have := (nv.ok _ (List.getElem_mem (show j < A.length by omega))).2.2.2.2.2.2.2.2
   omega
  ·rw [List.getD_eq_getElem?_getD, List.getElem?_eq_none (by omega)]; simp
 unfold ref15_PathsOK
 rw [chk_pos (by omega), rValue_eq k N A f hk, bnd1_some, if_pos ((flB_iff _ _ _).2 ⟨N, rfl, nv, fl⟩), if_neg (by rw [pw.len]; simp), show ((A.length : Int)).toNat = A.length by omega, tabG_rep]
 have := oL1 k N A nv f hl hf hk out h9 pw.wy pw.use out.length 0 k (by omega) hko
 rw [← this]
 congr 1
theorem agree15 (k : Nat) (N : Int) (A : List api_Arc) (f : List Int) (hk : 1300 < k) (hk2 : 2 * A.length < k) (hk3 : A.length * 1048576 < k) : law15_agree k N A f = some true := by
 unfold law15_agree
 cases h : chkN N A with
 | false =>
  rw [fMax_bad k N A h (by omega), bnd2_some, rMax_bad k N A h (by omega), bnd2_some, if_neg (by simp), fCheck_eq k N A (by omega), bnd1_some, r15Check_eq k N A (by omega), bnd1_some, if_neg (by simp), fValid_eq k N A f hk, bnd1_some, rValid_eq k N A f hk, bnd1_some, if_neg (by simp), fValue_eq k N A f hk, bnd1_some, rValue_eq k N A f hk, bnd1_some, if_neg (by simp), if_pos (by omega)]
  rfl
 | true =>
  obtain ⟨n, rfl, nv⟩ := (chkN_iff _ _).1 h
  obtain ⟨a, a1, a2⟩ := fMax_eq k n A nv hk2 (by omega) _ (val_bound nv) hk3
  obtain ⟨b, b1, b2⟩ := rMax_eq k n A nv (by omega) _ (val_bound nv) hk3
  have fa : flB (n : Int) A a = true := (flB_iff _ _ _).2 ⟨n, rfl, nv, a2.fl⟩
  have fb : flB (n : Int) A b = true := (flB_iff _ _ _).2 ⟨n, rfl, nv, b2.fl⟩
  have e := Mf.Least.uniq (a2.least nv) (b2.least nv)
  rw [a1, bnd2_some, b1, bnd2_some, if_neg (by simp), fCheck_eq k n A (by omega), bnd1_some, r15Check_eq k n A (by omega), bnd1_some, if_neg (by simp), fValid_eq k n A f hk, bnd1_some, rValid_eq k n A f hk, bnd1_some, if_neg (by simp), fValue_eq k n A f hk, bnd1_some, rValue_eq k n A f hk, bnd1_some, if_neg (by simp), if_neg (by omega), rValid_eq k n A a hk, bnd1_some, if_pos fa, rValue_eq k n A a hk, bnd1_some, rValue_eq k n A b hk, bnd1_some, if_pos fa, if_pos fb, e]
  simp
theorem parts15 (k : Nat) (N : Int) (A : List api_Arc) (f : List Int) (hk : 1300 < k) (hk2 : 2 * A.length < k) (hk3 : A.length * 1048576 < k) : law15_parts k N A f = some true := by
 unfold law15_parts
 cases h : chkN N A with
 | false =>
  have : flow_Paths k N A f = some ([], 16) := by
   unfold flow_Paths
   rw [fCheck_eq k N A (by omega), bnd1_some, h, if_pos (by simp)]; rfl
  rw [this, bnd2_some, r15Check_eq k N A (by omega), bnd1_some, h, if_pos (by simp), if_pos rfl]; rfl
 | true =>
  cases h2 : flB N A f with
  | false =>
   have : flow_Paths k N A f = some ([], 17) := by
    unfold flow_Paths
    rw [fCheck_eq k N A (by omega), bnd1_some, h, if_neg (by simp), fValid_eq k N A f hk, bnd1_some, h2, if_pos (by rfl)]
   rw [this, bnd2_some, r15Check_eq k N A (by omega), bnd1_some, h, if_neg (by simp), rValid_eq k N A f hk, bnd1_some, h2, if_pos (by rfl), if_pos rfl]; rfl
  | true =>
   obtain ⟨n, rfl, nv, fl⟩ := (flB_iff _ _ _).1 h2
   obtain ⟨out, o1, o2⟩ := fPaths_eq k n A f nv fl (val_nonneg nv fl) hk hk3
   have vb := val_bound nv f fl
   have hA := nv.len
   have ol := o2.len
   rw [o1, bnd2_some, r15Check_eq k n A (by omega), bnd1_some, h, if_neg (by simp), rValid_eq k n A f hk, bnd1_some, h2, if_neg (by simp), if_pos rfl, rPaths_ok k n A nv f fl hk out o2 (by omega) (by omega), bnd1_some]
theorem fr_J1 (N : Int) (A : List api_Arc) (f : List Int) (hA : A.length ≤ 40) : law15_FlowRaw.J1 1000000000 N A f = some true := by
 unfold law15_FlowRaw.J1
 rw [awake15, bnd1_some, if_pos rfl, agree15 1000000000 N A f (by omega) (by omega) (by omega), bnd1_some, if_pos rfl, parts15 1000000000 N A f (by omega) (by omega) (by omega), bnd1_some]
theorem fr_L2 (k : Nat) (N : Int) (A : List api_Arc) (f : List Int) (hw : law15_awake k = some true) (hJ : law15_FlowRaw.J1 k N A f = some true) (hf : f.length ≤ 60) : ∀ (m i n : Nat), i + m = f.length → m < n → law15_FlowRaw.L2 k N A f n (i : Int) = some true
 | 0, i, n + 1, e, _ => by rw [law15_FlowRaw.L2, if_neg (by omega), hJ]
 | m + 1, i, n + 1, e, hn => by
  have hi : i < f.length := by omega
  have ih := fr_L2 k N A f hw hJ hf m (i + 1) n (by omega) (by omega)
  rw [law15_FlowRaw.L2, if_pos (by omega), idx_pos hi, hw, bnd1_some, hJ, sc64 i (by omega), ih]
  split
  ·split <;> rfl
  ·rfl
theorem fr_all (k : Nat) (v0 : Int) (v1 : List api_Arc) (v2 : List Int) (hk : 1300 < k) (hw : law15_awake k = some true) (hJ : v1.length ≤ 40 → law15_FlowRaw.J1 k v0 v1 v2 = some true) : law15_FlowRaw k v0 v1 v2 = some true := by
 unfold law15_FlowRaw
 by_cases h : 40 < (v1.length : Int)
 ·rw [if_pos h, hw, bnd1_some]
 rw [if_neg h]
 by_cases h' : 60 < (v2.length : Int)
 ·rw [if_pos h', hw, bnd1_some]
 have J := hJ (by omega)
 have l2 := fr_L2 k v0 v1 v2 hw J (by omega) v2.length 0 k (by omega) (by omega)
 have l2 : law15_FlowRaw.L2 k v0 v1 v2 k 0 = some true := l2
 rw [if_neg h', r15Check_eq k v0 v1 (by omega), bnd1_some, J, l2]
 split <;> rfl
theorem FlowRaw_ex (v0 : Int) (v1 : List api_Arc) (v2 : List Int) : ∃ k, law15_FlowRaw k v0 v1 v2 = some true :=
 ⟨1000000000, fr_all 1000000000 v0 v1 v2 (by omega) awake15 (fr_J1 v0 v1 v2)⟩
end Go.TF
