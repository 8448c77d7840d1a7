/- Plain laws of layer 34: what statements name. -/
import Derived.Test.YtepdfenlkeaefaaFPguard
import Derived.Test.YtepdfenlkeaefaaFPseal
set_option linter.unusedVariables false
set_option linter.unusedSimpArgs false
namespace Go.TF
open Go Go.Abs
theorem awake34' (k : Nat) (hk : 1000 ≤ k) : law34_awake k = some true := by
 unfold law34_awake
 rw [gValid_eq k _ _ _ (by simp; omega) (by simp), bnd1_some, if_pos (by decide), Enough_eq k _ _ _ _ (by simp) (by simp) (by simp; omega) (by simp; omega), bnd1_some, if_pos (by decide), Enough_eq k _ _ _ _ (by simp) (by simp) (by simp; omega) (by simp; omega), bnd1_some]
 decide
def ofF (author num : Int) (prev : ByteArray) (time kind A B C : Int) (l : List Int) (pins : List api_Pin) (body : ByteArray) (sk : Int) (sd : ByteArray) : Int × Int × List Int × Int :=
 if chkS author num prev time kind A B C l pins body ≠ 0 then (0, 0, [], chkS author num prev time kind A B C l pins body)
 else if (sealB author num prev time kind A B C l pins body sk sd && decide (kind = 12) && decide (B = 0) && decide (C = 0) && decide (pins.length = 0) && strEq body (ByteArray.mk #[]) && okG author A l) = true then (author, A, l, 0) else (0, 0, [], 47)
theorem Clone_eq (k : Nat) (l : List Int) (h : l.length ≤ 10000) : slices_Clone_int_int k l = some l := by
 unfold slices_Clone_int_int; rw [chk_pos (by omega)]
theorem Of_p (k : Nat) (hk : 10000 < k) (author num : Int) (prev : ByteArray) (time kind A B C : Int) (l : List Int) (pins : List api_Pin) (body : ByteArray) (sk : Int) (sd : ByteArray) (h9 : l.length ≤ 9223372036854775807) (hl : l.length < k) (h2 : pins.length < k) :
 guardian_Of k author num prev time kind A B C l pins body sk sd = some (ofF author num prev time kind A B C l pins body sk sd) := by
 unfold guardian_Of ofF
 rw [Check_p k _ _ _ _ _ _ _ _ _ _ _ _ _ h9 hl h2, bnd1_some]
 by_cases c : chkS author num prev time kind A B C l pins body ≠ 0
 ·rw [if_pos c, if_pos c]
 rw [if_neg c, if_neg c]
 have z := chk0_size (Decidable.not_not.1 c)
 have zl := z.l
 rw [Clone_eq k l (by omega), bnd1_some, Sealed_p k hk _ _ _ _ _ _ _ _ _ _ _ _ _ z, bnd1_some]
 cases sealB author num prev time kind A B C l pins body sk sd
 ·simp
 rw [if_neg (by simp)]
 by_cases a1 : kind ≠ 12
 ·rw [if_pos a1]; simp [a1]
 rw [if_neg a1]
 by_cases a2 : B ≠ 0
 ·rw [if_pos a2]; simp [a2]
 rw [if_neg a2]
 by_cases a3 : C ≠ 0
 ·rw [if_pos a3]; simp [a3]
 rw [if_neg a3]
 by_cases a4 : 0 < (pins.length : Int)
 ·rw [if_pos a4]
  have : ¬ pins.length = 0 := by omega
  simp only [this, decide_false, Bool.and_false, Bool.false_and]; rfl
 rw [if_neg a4]
 have a4' : pins.length = 0 := by omega
 cases a5 : strEq body (ByteArray.mk #[])
 ·rw [if_pos (by simp)]; simp
 rw [if_neg (by simp), gValid_eq k _ _ _ hl h9, bnd1_some]
 have a1 := Decidable.not_not.1 a1
 have a2 := Decidable.not_not.1 a2
 have a3 := Decidable.not_not.1 a3
 cases okG author A l
 ·simp
 ·rw [if_neg (by simp)]; simp [a1, a2, a3, a4']
theorem Of_r (k : Nat) (hk : 10000 < k) (author num : Int) (prev : ByteArray) (time kind A B C : Int) (l : List Int) (pins : List api_Pin) (body : ByteArray) (sk : Int) (sd : ByteArray) (h9 : l.length ≤ 9223372036854775807) (hl : l.length < k) (h2 : pins.length < k) :
 ref34_Of k author num prev time kind A B C l pins body sk sd = some (ofF author num prev time kind A B C l pins body sk sd) := by
 unfold ref34_Of ofF
 rw [Check_r k _ _ _ _ _ _ _ _ _ _ _ _ _ h9 hl h2, bnd1_some]
 by_cases c : chkS author num prev time kind A B C l pins body ≠ 0
 ·rw [if_pos c, if_pos c]
 rw [if_neg c, if_neg c]
 have z := chk0_size (Decidable.not_not.1 c)
 have zl := z.l
 rw [chk_pos (by omega), Sealed_r k hk _ _ _ _ _ _ _ _ _ _ _ _ _ z, bnd1_some]
 cases sealB author num prev time kind A B C l pins body sk sd
 ·simp
 rw [if_neg (by simp)]
 by_cases a1 : kind ≠ 12
 ·rw [if_pos a1]; simp [a1]
 rw [if_neg a1]
 by_cases a2 : B ≠ 0
 ·rw [if_pos a2]; simp [a2]
 rw [if_neg a2]
 by_cases a3 : C ≠ 0
 ·rw [if_pos a3]; simp [a3]
 rw [if_neg a3]
 by_cases a4 : (pins.length : Int) ≠ 0
 ·rw [if_pos a4]
  have : ¬ pins.length = 0 := by omega
  simp only [this, decide_false, Bool.and_false, Bool.false_and]; rfl
 rw [if_neg a4]
 have a4' : pins.length = 0 := by omega
 cases a5 : strEq body (ByteArray.mk #[])
 ·rw [if_pos (by simp)]; simp
 rw [if_neg (by simp), refGValid_eq k _ _ _ hl h9, bnd1_some]
 have a1 := Decidable.not_not.1 a1
 have a2 := Decidable.not_not.1 a2
 have a3 := Decidable.not_not.1 a3
 cases okG author A l
 ·simp
 ·rw [if_neg (by simp)]; simp [a1, a2, a3, a4']
def ofS (s : api_Statement) : Int × Int × List Int × Int := ofF s.Author s.Number s.Prev s.Time s.Kind s.A s.B s.C s.Lst s.Pins s.Body s.Seal_Key s.Seal_Digest
def ofG (s : api_Statement) : Option api_Guard := if (ofS s).2.2.2 = 0 then some ⟨(ofS s).1, (ofS s).2.1, (ofS s).2.2.1⟩ else none
theorem ofS_cases (s : api_Statement) : (ofG s = none ∧ (ofS s).2.2.2 ≠ 0) ∨ ((ofS s).2.2.2 = 0 ∧ ofG s = some ⟨s.Author, s.A, s.Lst⟩ ∧ ofS s = (s.Author, s.A, s.Lst, 0) ∧ okG s.Author s.A s.Lst = true) := by
 unfold ofG
 by_cases h : (ofS s).2.2.2 = 0
 ·refine .inr ⟨h, ?_⟩
  rw [if_pos h]
  unfold ofS ofF at h ⊢
  split at h
  ·rename_i c; exact absurd h c
  rename_i c
  rw [if_neg c]
  split at h
  ·rename_i d
   rw [if_pos d]
   rw [Bool.and_eq_true] at d
   exact ⟨rfl, rfl, d.2⟩
  ·exact absurd h (by decide)
 ·exact .inl ⟨if_neg h, h⟩
theorem okG_key {o n : Int} {l : List Int} (h : okG o n l = true) : 0 ≤ o ∧ o < 64 := by
 simp only [okG, endG, keyB, Bool.and_eq_true, decide_eq_true_eq] at h
 omega
def FitK (k : Nat) (s : api_Statement) : Prop := s.Lst.length ≤ 9223372036854775807 ∧ s.Lst.length < k ∧ s.Pins.length < k
theorem OfS_p (k : Nat) (hk : 10000 < k) (s : api_Statement) (h : FitK k s) : guardian_Of k s.Author s.Number s.Prev s.Time s.Kind s.A s.B s.C s.Lst s.Pins s.Body s.Seal_Key s.Seal_Digest = some (ofS s) := Of_p k hk _ _ _ _ _ _ _ _ _ _ _ _ _ h.1 h.2.1 h.2.2
theorem OfS_r (k : Nat) (hk : 10000 < k) (s : api_Statement) (h : FitK k s) : ref34_Of k s.Author s.Number s.Prev s.Time s.Kind s.A s.B s.C s.Lst s.Pins s.Body s.Seal_Key s.Seal_Digest = some (ofS s) := Of_r k hk _ _ _ _ _ _ _ _ _ _ _ _ _ h.1 h.2.1 h.2.2
theorem mget_put {β : Type} (m : List (Int × β)) (a b : Int) (v : β) : mget (mput m a v) b = if b = a then some v else mget m b := by
 have fi : ∀ m : List (Int × β), ∀ b : Int, mgI m b = m.findIdx? fun p => b == p.1 := fun _ _ => rfl
 unfold mput
 cases h : mgI m a with
 | none =>
  simp only
  have hn : ∀ p ∈ m, ¬ a = p.1 := by
   rw [fi, List.findIdx?_eq_none_iff] at h
   intro p hp; simpa using h p hp
  unfold mget
  rw [fi, fi, List.findIdx?_append]
  by_cases e : b = a
  ·subst e
   rw [if_pos rfl]
   have : m.findIdx? (fun p => b == p.1) = none := by rw [← fi]; exact h
   rw [this]; simp [List.findIdx?_cons]
  ·rw [if_neg e]
   cases hb : m.findIdx? (fun p => b == p.1) with
   | none => simp [List.findIdx?_cons, e]
   | some j =>
    have hj : j < m.length := (List.findIdx?_eq_some_iff_findIdx_eq.1 hb).1
    simp [List.getElem?_append_left hj]
 | some j =>
  simp only
  rw [fi, List.findIdx?_eq_some_iff_findIdx_eq] at h
  have hj := h.1
  have haj : a = m[j].1 := by
   have := List.findIdx_getElem (xs := m) (p := fun p => a == p.1) (w := by rw [h.2]; exact hj)
   simp only [h.2, beq_iff_eq] at this; exact this
  have e1 : (m.set j (a, v)).findIdx? (fun p => b == p.1) = m.findIdx? (fun p => b == p.1) := by
   have : (m.set j (a, v)).map (fun p => p.1) = m.map (fun p => p.1) := by
    rw [List.map_set]
    refine List.ext_getElem (by simp) fun i h1 h2 => ?_
    rw [List.getElem_set]
    split
    ·rename_i e; subst e; simp [haj]
    ·rfl
   have g : ∀ l : List (Int × β), l.findIdx? (fun p => b == p.1) = (l.map (fun p => p.1)).findIdx? (fun x => b == x) := fun l => by rw [List.findIdx?_map]; rfl
   rw [g, g, this]
  unfold mget
  rw [fi, fi, e1]
  by_cases e : b = a
  ·subst e
   rw [if_pos rfl]
   have : m.findIdx? (fun p => b == p.1) = some j := List.findIdx?_eq_some_iff_findIdx_eq.2 h
   rw [this]; simp [hj]
  ·rw [if_neg e]
   cases hb : m.findIdx? (fun p => b == p.1) with
   | none => rfl
   | some i =>
    have hi := List.findIdx?_eq_some_iff_findIdx_eq.1 hb
    have hbi : b = m[i].1 := by
     have := List.findIdx_getElem (xs := m) (p := fun p => b == p.1) (w := by rw [hi.2]; exact hi.1)
     simp only [hi.2, beq_iff_eq] at this; exact this
    have : ¬ j = i := by rintro rfl; exact e (hbi.trans haj.symm)
    simp [List.getElem?_set, this]
@[simp] theorem mget_nil {β : Type} (b : Int) : mget ([] : List (Int × β)) b = none := rfl
def stepG (k : Int) (acc : Option api_Guard) (s : api_Statement) : Option api_Guard := match ofG s with | some g => if g.Owner = k then some g else acc | none => acc
def lastG (l : List api_Statement) (k : Int) : Option api_Guard := l.foldl (stepG k) none
def allG (l : List api_Statement) : List api_Guard := (List.range 64).filterMap fun i => lastG l (i : Nat)
def allF (f : Int → Option api_Guard) (n : Nat) : List api_Guard := (List.range n).filterMap fun i => f (i : Nat)
theorem allF_succ (f : Int → Option api_Guard) (n : Nat) : allF f (n + 1) = allF f n ++ (match f (n : Nat) with | some g => [g] | none => []) := by
 unfold allF
 rw [List.range_succ, List.filterMap_append]
 cases h : f (n : Nat) <;> simp [h]
theorem allF_len (f : Int → Option api_Guard) (n : Nat) : (allF f n).length ≤ n := by
 unfold allF
 have := List.length_filterMap_le (fun i : Nat => f (i : Nat)) (List.range n)
 simpa using this
theorem gall3 (k : Nat) (m : List (Int × api_Guard)) : ∀ (j i n : Nat), i + j = 64 → j < n → guardian_All.L3 k m n (i : Int) (allF (mget m) i) = some (allF (mget m) 64)
 | 0, i, n + 1, h, _ => by
  obtain rfl : i = 64 := by omega
  rw [guardian_All.L3, if_neg (by omega)]
 | j + 1, i, n + 1, h, hn => by
  have hl := allF_len (mget m) i
  have hs := allF_succ (mget m) i
  rw [guardian_All.L3, if_pos (by omega)]
  unfold guardian_All.J5 guardian_All.J4
  cases hg : mget m (i : Nat) with
  | none =>
   rw [hg] at hs
   simp only [opt2]
   rw [if_neg (by simp), succ64 _ (by omega)]
   have := gall3 k m j (i + 1) n (by omega) (by omega)
   rw [hs] at this
   simpa using this
  | some g =>
   rw [hg] at hs
   simp only [opt2]
   rw [if_pos trivial, chk_pos (by simp; omega), succ64 _ (by omega)]
   have := gall3 k m j (i + 1) n (by omega) (by omega)
   rw [hs] at this
   simpa using this
theorem gall1 (k : Nat) (hk : 10000 < k) (l : List api_Statement) (hl : l.length ≤ 100000) (hf : ∀ s ∈ l, FitK k s) : ∀ (j i n : Nat) (m : List (Int × api_Guard)), i + j = l.length → j < n → (∀ x : Int, mget m x = (l.take i).foldl (stepG x) none) →
 guardian_All.L1 k l n (i : Int) m = some (allG l)
 | 0, i, n + 1, m, h, _, hm => by
  rw [guardian_All.L1, if_neg (by omega)]
  have := gall3 k m 64 0 k (by omega) (by omega)
  rw [show allF (mget m) 0 = [] from rfl] at this
  rw [show (0 : Int) = ((0 : Nat) : Int) from rfl, this]
  congr 1
  unfold allF allG lastG
  congr 1
  funext x
  rw [hm, List.take_of_length_le (by omega)]
 | j + 1, i, n + 1, m, h, hn, hm => by
  have h1 : i < l.length := by omega
  have hs := hf _ (List.getElem_mem h1)
  rw [guardian_All.L1, if_pos (by omega), idx_pos h1, OfS_p k hk _ hs]
  obtain ⟨⟨a, b, c, d⟩, e⟩ : ∃ p, ofS l[i] = p := ⟨_, rfl⟩
  have b4 : ∀ f : Int → Int → List Int → Int → Option (List api_Guard), bnd4 (some (a, b, c, d)) f = f a b c d := fun _ => rfl
  have ht : ∀ x, (l.take (i + 1)).foldl (stepG x) none = stepG x ((l.take i).foldl (stepG x) none) l[i] := fun x => by
   rw [List.take_succ_eq_append_getElem h1, List.foldl_append]; rfl
  rw [e, b4]
  unfold guardian_All.J2
  rw [succ64 _ (by omega)]
  rcases ofS_cases l[i] with ⟨h2, h3⟩ | ⟨h2, h3, h4, h5⟩
  ·rw [e] at h3
   rw [if_neg h3]
   exact gall1 k hk l hl hf j (i + 1) n m (by omega) (by omega) fun x => by rw [ht x, hm x]; unfold stepG; rw [h2]
  ·rw [e] at h4
   simp only [Prod.mk.injEq] at h4
   obtain ⟨rfl, rfl, rfl, rfl⟩ := h4
   rw [if_pos rfl]
   refine gall1 k hk l hl hf j (i + 1) n _ (by omega) (by omega) fun x => ?_
   rw [ht x, mget_put, hm x]
   unfold stepG
   rw [h3]
   by_cases q : x = l[i].Author
   ·subst q; simp
   ·have q' : ¬ l[i].Author = x := fun h => q h.symm
    simp [q, q']
theorem All_p (k : Nat) (hk : 10000 < k) (l : List api_Statement) (hl : l.length ≤ 100000) (hlk : l.length < k) (hf : ∀ s ∈ l, FitK k s) : guardian_All k l = some (allG l) := by
 unfold guardian_All
 exact gall1 k hk l hl hf l.length 0 k [] (by omega) hlk fun x => by simp
theorem rall3 (k : Nat) (hk : 10000 < k) (l : List api_Statement) (hl : l.length ≤ 100000) (hf : ∀ s ∈ l, FitK k s) (v2 : Int) (v3 : List api_Guard) (h3 : v3.length ≤ 1000) (kb : Int → List api_Guard → Option (List api_Guard)) : ∀ (j i n : Nat) (a b : Int) (c : List Int) (o : Bool), i + j = l.length → j < n →
 (l.take i).foldl (stepG v2) none = (if o = true then some ⟨a, b, c⟩ else none) →
 ref34_All.L3 k l v2 v3 kb n o (i : Int) a b c = kb (IntKind.wrap .i64 (v2 + 1)) (v3 ++ (match lastG l v2 with | some g => [g] | none => []))
 | 0, i, n + 1, a, b, c, o, h, _, hm => by
  rw [List.take_of_length_le (by omega)] at hm
  rw [ref34_All.L3, if_neg (by omega)]
  unfold ref34_All.J2 lastG
  rw [hm]
  cases o
  ·rw [if_neg (by simp)]; simp
  ·rw [if_pos rfl, chk_pos (by simp; omega)]; simp
 | j + 1, i, n + 1, a, b, c, o, h, hn, hm => by
  have h1 : i < l.length := by omega
  have hs := hf _ (List.getElem_mem h1)
  have ht : (l.take (i + 1)).foldl (stepG v2) none = stepG v2 ((l.take i).foldl (stepG v2) none) l[i] := by
   rw [List.take_succ_eq_append_getElem h1, List.foldl_append]; rfl
  rw [ref34_All.L3, if_pos (by omega), idx_pos h1]
  unfold ref34_All.J4
  rw [succ64 _ (by omega)]
  by_cases q : l[i].Author ≠ v2
  ·rw [if_pos q]
   refine rall3 k hk l hl hf v2 v3 h3 kb j (i + 1) n a b c o (by omega) (by omega) ?_
   rw [ht, hm]
   unfold stepG
   rcases ofS_cases l[i] with ⟨h2, _⟩ | ⟨_, h4, _, _⟩
   ·rw [h2]
   ·rw [h4]; simp [q]
  ·rw [if_neg q, OfS_r k hk _ hs]
   have q := Decidable.not_not.1 q
   obtain ⟨⟨e1, e2, e3, e4⟩, e⟩ : ∃ p, ofS l[i] = p := ⟨_, rfl⟩
   have b4 : ∀ f : Int → Int → List Int → Int → Option (List api_Guard), bnd4 (some (e1, e2, e3, e4)) f = f e1 e2 e3 e4 := fun _ => rfl
   rw [e, b4]
   rcases ofS_cases l[i] with ⟨h2, h5⟩ | ⟨_, h4, h5, h6⟩
   ·rw [e] at h5
    rw [if_neg h5]
    refine rall3 k hk l hl hf v2 v3 h3 kb j (i + 1) n a b c o (by omega) (by omega) ?_
    rw [ht, hm]; unfold stepG; rw [h2]
   ·rw [e] at h5
    simp only [Prod.mk.injEq] at h5
    obtain ⟨rfl, rfl, rfl, rfl⟩ := h5
    rw [if_pos rfl]
    refine rall3 k hk l hl hf v2 v3 h3 kb j (i + 1) n _ _ _ true (by omega) (by omega) ?_
    rw [ht]; unfold stepG; rw [h4]; simp [q]
theorem rall1 (k : Nat) (hk : 10000 < k) (l : List api_Statement) (hl : l.length ≤ 100000) (hlk : l.length < k) (hf : ∀ s ∈ l, FitK k s) : ∀ (j i n : Nat), i + j = 64 → j < n → ref34_All.L1 k l n (i : Int) (allF (lastG l) i) = some (allG l)
 | 0, i, n + 1, h, _ => by
  obtain rfl : i = 64 := by omega
  rw [ref34_All.L1, if_neg (by omega)]; rfl
 | j + 1, i, n + 1, h, hn => by
  have hlen := allF_len (lastG l) i
  rw [ref34_All.L1, if_pos (by omega), show (0 : Int) = ((0 : Nat) : Int) from rfl, rall3 k hk l hl hf _ _ (by omega) _ l.length 0 k _ _ _ false (by omega) hlk (by simp), succ64 _ (by omega), ← allF_succ]
  exact rall1 k hk l hl hlk hf j (i + 1) n (by omega) (by omega)
theorem All_r (k : Nat) (hk : 10000 < k) (l : List api_Statement) (hl : l.length ≤ 100000) (hlk : l.length < k) (hf : ∀ s ∈ l, FitK k s) : ref34_All k l = some (allG l) := by
 unfold ref34_All
 exact rall1 k hk l hl hlk hf 64 0 k (by omega) (by omega)
theorem gsame_loop (k : Nat) (l : List api_Guard) (hl : l.length ≤ 100000) (hg : ∀ g ∈ l, g.Guardians.length < k ∧ g.Guardians.length ≤ 9223372036854775807) : ∀ (j i n : Nat), i + j = l.length → j < n → ref34_Same.L1 k l l n (i : Int) = some true
 | 0, i, n + 1, h, _ => by rw [ref34_Same.L1, if_neg (by omega)]
 | j + 1, i, n + 1, h, hn => by
  have h1 : i < l.length := by omega
  have h2 := hg _ (List.getElem_mem h1)
  rw [ref34_Same.L1, if_pos (by omega), idx_pos h1, idx_pos h1, if_neg (by simp), if_neg (by simp), same23_refl _ _ h2.1 h2.2, bnd1_some, if_neg (by simp), succ64 _ (by omega)]
  exact gsame_loop k l hl hg j (i + 1) n (by omega) (by omega)
theorem gsame_refl (k : Nat) (l : List api_Guard) (hl : l.length ≤ 100000) (hlk : l.length < k) (hg : ∀ g ∈ l, g.Guardians.length < k ∧ g.Guardians.length ≤ 9223372036854775807) : ref34_Same k l l = some true := by
 unfold ref34_Same
 rw [if_neg (by simp)]
 exact gsame_loop k l hl hg l.length 0 k (by omega) hlk
theorem ofG_len {s : api_Statement} {g : api_Guard} (h : ofG s = some g) : g.Guardians.length ≤ 12 := by
 rcases ofS_cases s with ⟨h2, _⟩ | ⟨_, h3, _, h5⟩
 ·rw [h2] at h; cases h
 ·rw [h3] at h; cases h; exact okG_len h5
theorem lastG_mem (x : Int) : ∀ (l : List api_Statement) (a : Option api_Guard) (g : api_Guard), l.foldl (stepG x) a = some g → a = some g ∨ ∃ s ∈ l, ofG s = some g ∧ g.Owner = x
 | [], a, g, h => .inl h
 | s :: l, a, g, h => by
  rw [List.foldl_cons] at h
  rcases lastG_mem x l _ g h with h1 | ⟨t, ht, h2⟩
  ·unfold stepG at h1
   split at h1
   ·rename_i g' hg
    split at h1
    ·cases h1; rename_i ho; exact .inr ⟨s, by simp, hg, ho⟩
    ·exact .inl h1
   ·exact .inl h1
  ·exact .inr ⟨t, by simp [ht], h2⟩
theorem allG_len (l : List api_Statement) : (allG l).length ≤ 64 := allF_len (lastG l) 64
theorem allG_glen (l : List api_Statement) : ∀ g ∈ allG l, g.Guardians.length ≤ 12 := by
 intro g hg
 unfold allG at hg
 obtain ⟨i, _, h⟩ := List.mem_filterMap.1 hg
 rcases lastG_mem _ l none g h with h | ⟨s, _, h, _⟩
 ·cases h
 ·exact ofG_len h
theorem gall_L3 (k : Nat) (hk : 10000 < k) (v1 w : List api_Statement) (hl : (w ++ v1).length ≤ 100) (hf : ∀ s ∈ w ++ v1, FitK k s) : ∀ (j i n : Nat), i + j = (w ++ v1).length → j < n → law34_GuardianAll.L3 k v1 w n (i : Int) = some true
 | 0, i, n + 1, h, _ => by
  have := allG_len (w ++ v1)
  have hg := allG_glen (w ++ v1)
  rw [law34_GuardianAll.L3, if_neg (by omega), All_p k hk _ (by omega) (by omega) hf, bnd1_some, All_r k hk _ (by omega) (by omega) hf, bnd1_some,
   gsame_refl k _ (by omega) (by omega) (fun g h => by have := hg g h; omega), bnd1_some, if_pos rfl, awake34' k (by omega)]
  rfl
 | j + 1, i, n + 1, h, hn => by
  have h1 : i < (w ++ v1).length := by omega
  have hs := hf _ (List.getElem_mem h1)
  rw [law34_GuardianAll.L3, if_pos (by omega), idx_pos h1, OfS_p k hk _ hs, OfS_r k hk _ hs]
  obtain ⟨⟨a, b, c, d⟩, e⟩ : ∃ p, ofS (w ++ v1)[i] = p := ⟨_, rfl⟩
  have b4 : ∀ f : Int → Int → List Int → Int → Option Bool, bnd4 (some (a, b, c, d)) f = f a b c d := fun _ => rfl
  have hc : c.length < k ∧ c.length ≤ 9223372036854775807 := by
   rcases ofS_cases (w ++ v1)[i] with ⟨_, h5⟩ | ⟨_, _, h5, h6⟩
   ·unfold ofS ofF at e h5
    split at e
    ·cases e; simp; omega
    ·split at e
     ·rename_i c1 c2; rw [if_neg c1, if_pos c2] at h5; exact absurd rfl h5
     ·cases e; simp; omega
   ·rw [e] at h5; cases h5
    have := okG_len h6
    omega
  rw [e, b4, b4, if_neg (by simp), gsame_refl k _ (by simp) (by simp; omega) (fun g hg => by simp only [List.mem_singleton] at hg; subst hg; exact hc), bnd1_some, if_neg (by simp), succ64 _ (by omega)]
  exact gall_L3 k hk v1 w hl hf j (i + 1) n (by omega) (by omega)
theorem mStatement_eq (k : Nat) (hk : 10000 < k) (author num time kind A B C : Int) (l : List Int) (hl : l.length ≤ 100) : mill_Statement k author num time kind A B C l [] =
 some (⟨author, num, (if 0 < num then ofI (List.replicate 32 0) else ByteArray.mk #[]), time, kind, A, B, C, l, [], ByteArray.mk #[], author,
  digS author num (if 0 < num then ofI (List.replicate 32 0) else ByteArray.mk #[]) time kind A B C l [] (ByteArray.mk #[])⟩ : api_Statement) := by
 have hc : ∀ p : ByteArray, p.size ≤ 32 → mill_Statement.J1 k author num time kind A B C l [] p = some (⟨author, num, p, time, kind, A, B, C, l, [], ByteArray.mk #[], author, digS author num p time kind A B C l [] (ByteArray.mk #[])⟩ : api_Statement) := by
  intro p hp
  unfold mill_Statement.J1 ref03_Seal ref03_Copy
  rw [chk_pos (by omega), chk_pos (by simp), bnd1_some, Digest_r k hk _ _ _ _ _ _ _ _ _ _ _ _ _ ⟨hp, hl, by simp, by simp, Nat.zero_le _⟩, bnd1_some, bnd1_some]
 unfold mill_Statement
 rw [chk_pos (by omega), chk_pos (by simp)]
 have hz : (ofI (List.replicate 32 0)).size = 32 := by simp [ofI, ByteArray.size]
 by_cases a : 0 < num
 ·rw [if_pos a, if_pos a, chk_pos (by omega)]
  exact hc _ (by rw [show (32 : Int).toNat = 32 from rfl, hz]; exact Nat.le_refl _)
 ·rw [if_neg a, if_neg a]
  exact hc _ (by decide)
theorem mMod34 (k : Nat) (a b : Int) : mill_Mod k a b = some (modF a b) := by unfold mill_Mod; rw [Mod_eq, bnd1_some]
end Go.TF
