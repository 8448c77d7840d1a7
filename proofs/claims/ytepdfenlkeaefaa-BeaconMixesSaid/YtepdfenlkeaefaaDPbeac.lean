/- Plain laws of layer 25: numbers that are mixed. -/
import Derived.Test.YtepdfenlkeaefaaDPros
set_option linter.unusedVariables false
set_option linter.unusedSimpArgs false
namespace Go.TF
open Go Go.Abs

theorem awake25 : law25_awake 1000 = some true := by decide +kernel

/-! ### sums -/
def pubB (x : Int) : Bool := decide (0 ≤ x) && decide (x < 4294967296)
theorem public_eq (k : Nat) (x : Int) : beacon_public k x = some (pubB x) := by
  unfold beacon_public pubB
  by_cases h : 0 ≤ x <;> simp [h]
def allP (l : List Int) : Bool := l.all pubB
theorem allP_cons (x : Int) (l : List Int) : allP (x :: l) = (pubB x && allP l) := by simp [allP]
theorem sumP : ∀ (l : List Int), allP l = true → 0 ≤ l.sum ∧ l.sum ≤ 4294967296 * l.length
  | [], _ => by simp
  | x :: l, h => by
    rw [allP_cons, Bool.and_eq_true] at h
    have := sumP l h.2
    have h1 := h.1
    simp only [pubB, Bool.and_eq_true, decide_eq_true_eq] at h1
    simp only [List.sum_cons, List.length_cons]
    omega
def mixF (l : List Int) (m : Int) : Int × Int :=
  if 64 < (l.length : Int) then (0, 3) else if m < 1 then (0, 2) else if 2147483648 < m then (0, 2) else if allP l then (Int.tmod l.sum m, 0) else (0, 2)
theorem mixIx_loop (k : Nat) (l : List Int) (h9 : l.length ≤ 9223372036854775807) : ∀ (m i n : Nat), i + m = l.length → m < n → ∃ r, slices_IndexFunc_int_int_Mix_1.L1 k l n (i : Int) = some r ∧ decide (0 ≤ r) = !allP (l.drop i)
  | 0, i, n + 1, h, _ => by
    rw [slices_IndexFunc_int_int_Mix_1.L1, if_neg (by omega), List.drop_of_length_le (by omega)]
    exact ⟨-1, rfl, rfl⟩
  | m + 1, i, n + 1, h, hn => by
    have h1 : i < l.length := by omega
    rw [slices_IndexFunc_int_int_Mix_1.L1, if_pos (by omega), idx_pos h1, beacon_Mix_1, public_eq, bnd1_some, bnd1_some, List.drop_eq_getElem_cons h1, allP_cons]
    cases hv : pubB l[i]
    · exact ⟨i, rfl, by simp⟩
    · rw [if_neg (by simp), succ64 _ (by omega), Bool.true_and]
      exact mixIx_loop k l h9 m (i + 1) n (by omega) (by omega)
theorem mixCont_eq (k : Nat) (l : List Int) (h9 : l.length ≤ 9223372036854775807) (hk : l.length < k) : slices_ContainsFunc_int_int_Mix_1 k l = some (!allP l) := by
  obtain ⟨r, h1, h2⟩ := mixIx_loop k l h9 l.length 0 k (by omega) hk
  unfold slices_ContainsFunc_int_int_Mix_1 slices_IndexFunc_int_int_Mix_1
  rw [show (0 : Int) = ((0 : Nat) : Int) from rfl, h1, bnd1_some]
  exact congrArg some (by simpa using h2)
theorem mix_loop (k : Nat) (l : List Int) (m : Int) (hm : m ≠ 0) (hl : l.length ≤ 64) (ha : allP l = true) : ∀ (j i n : Nat) (a : Int), i + j = l.length → j < n → 0 ≤ a → a ≤ 4294967296 * i → beacon_Mix.L1 k l m n a (i : Int) = some (Int.tmod (a + (l.drop i).sum) m, 0)
  | 0, i, n + 1, a, h, _, _, _ => by
    rw [beacon_Mix.L1, if_neg (by omega), List.drop_of_length_le (by omega), chk_pos hm]; simp
  | j + 1, i, n + 1, a, h, hn, h0, h4 => by
    have h1 : i < l.length := by omega
    have hp : pubB l[i] = true := List.all_eq_true.1 ha _ (List.getElem_mem h1)
    simp only [pubB, Bool.and_eq_true, decide_eq_true_eq] at hp
    rw [beacon_Mix.L1, if_pos (by omega), idx_pos h1, succ64 _ (by omega), w64 (by omega) (by omega), mix_loop k l m hm hl ha j (i + 1) n _ (by omega) (by omega) (by omega) (by omega), List.drop_eq_getElem_cons h1, List.sum_cons, Int.add_assoc]
theorem Mix_eq (k : Nat) (l : List Int) (m : Int) (hk : 64 < k) : beacon_Mix k l m = some (mixF l m) := by
  unfold beacon_Mix mixF
  by_cases a : 64 < (l.length : Int)
  · rw [if_pos a, if_pos a]
  rw [if_neg a, if_neg a]
  by_cases b : m < 1
  · rw [if_pos b, if_pos b]
  rw [if_neg b, if_neg b]
  by_cases c : 2147483648 < m
  · rw [if_pos c, if_pos c]
  rw [if_neg c, if_neg c, mixCont_eq k l (by omega) (by omega), bnd1_some]
  cases d : allP l
  · rfl
  · rw [if_neg (by simp), show (0 : Int) = ((0 : Nat) : Int) from rfl, mix_loop k l m (by omega) (by omega) d l.length 0 k _ (by omega) (by omega) (by omega) (by omega)]
    simp
/-! ### one number goes round -/
theorem modlt {x m : Nat} (h : x < 2 * m) : x % m = if x < m then x else x - m := by
  split
  · exact Nat.mod_eq_of_lt (by omega)
  · rw [Nat.mod_eq_sub_mod (by omega), Nat.mod_eq_of_lt (by omega)]
def seenL (a m n : Nat) : List Int := (List.range m).map fun r => if (if r < a then r + m - a else r - a) < n then 1 else 0
theorem seenL_len (a m n : Nat) : (seenL a m n).length = m := by simp [seenL]
theorem seenL_0 (a m : Nat) : seenL a m 0 = List.replicate m 0 := by
  unfold seenL
  simp only [Nat.not_lt_zero, if_false]
  exact List.ext_getElem (by simp) fun i h1 h2 => by simp
theorem seenL_get (a m n r : Nat) (hr : r < m) : (seenL a m n)[r]'(by rw [seenL_len]; exact hr) = if (if r < a then r + m - a else r - a) < n then 1 else 0 := by simp [seenL]
theorem seenL_set (a m n : Nat) (ha : a < m) (hn : n < m) : (seenL a m n).set ((a + n) % m) 1 = seenL a m (n + 1) := by
  have e := modlt (x := a + n) (m := m) (by omega)
  refine List.ext_getElem (by simp [seenL]) fun r h1 h2 => ?_
  have hr : r < m := by simpa [seenL] using h2
  rw [List.getElem_set, seenL_get a m (n + 1) r hr, seenL_get a m n r hr, e]
  by_cases c1 : a + n < m <;> by_cases c2 : r < a <;> simp only [c1, c2, if_true, if_false] <;> (split <;> split <;> (try split) <;> first | rfl | omega)
theorem seenL_at (a m n : Nat) (ha : a < m) (hn : n < m) : (seenL a m n)[(a + n) % m]'(by rw [seenL_len]; exact Nat.mod_lt _ (by omega)) = 0 := by
  have e := modlt (x := a + n) (m := m) (by omega)
  rw [seenL_get a m n _ (Nat.mod_lt _ (by omega)), if_neg]
  rw [e]
  split <;> split <;> omega
theorem seenL_full (a m r : Nat) (ha : a < m) (hr : r < m) : (seenL a m m)[r]'(by rw [seenL_len]; exact hr) = 1 := by
  rw [seenL_get a m m r hr]
  by_cases c : r < a
  · rw [if_pos c, if_pos (by omega)]
  · rw [if_neg c, if_pos (by omega)]
theorem tmodN (a b : Nat) : Int.tmod (a : Int) (b : Int) = ((a % b : Nat) : Int) := by
  rw [Int.tmod_eq_emod_of_nonneg (by omega)]; rfl

theorem mixes3 (k : Nat) (v2 : Int) (m : Nat) (hm : IntKind.wrap .i64 (1 + Int.tmod (IntKind.wrap .i64 v2) 40) = (m : Int)) (hA : law25_awake k = some true) (a : Nat) (ha : a < m) (h40 : m ≤ 40) : ∀ (j i n : Nat), i + j = m → j < n →
    law25_BeaconMixes.L3 k v2 (seenL a m m) n (i : Int) = some true
  | 0, i, n + 1, h, _ => by rw [law25_BeaconMixes.L3, hm, if_neg (by omega), hA]; rfl
  | j + 1, i, n + 1, h, hn => by
    rw [law25_BeaconMixes.L3, hm, if_pos (by omega), idx_pos (by rw [seenL_len]; omega), seenL_full _ _ _ ha (by omega), if_neg (by simp), succ64 _ (by omega)]
    exact mixes3 k v2 m hm hA a ha h40 j (i + 1) n (by omega) (by omega)
theorem mixes2 (k : Nat) (v1 v2 v3 : Int) (v7 : List Int) (m c s S : Nat) (hk : 64 < k) (hm : IntKind.wrap .i64 (1 + Int.tmod (IntKind.wrap .i64 v2) 40) = (m : Int))
    (hc : Int.tmod (IntKind.wrap .i64 v1) (IntKind.wrap .i64 ((v7.length : Int) + 1)) = (c : Int)) (hs : IntKind.wrap .i64 (Int.tdiv (IntKind.wrap .i64 v3) 2) = (s : Int)) (hS : v7.sum = (S : Int))
    (hA : law25_awake k = some true) (h0 : 0 < m) (h40 : m ≤ 40) (hcl : c ≤ v7.length) (hs2 : s ≤ 2147483648) (h20 : v7.length ≤ 20) (hp : allP v7 = true) : ∀ (j i n : Nat), i + j = m → j < n →
    law25_BeaconMixes.L2 k v1 v2 v3 v7 n (i : Int) (seenL ((S + s) % m) m i) = some true
  | 0, i, n + 1, h, _ => by
    obtain rfl : i = m := by omega
    rw [law25_BeaconMixes.L2, hm, if_neg (by omega)]
    exact mixes3 k v2 i hm hA _ (Nat.mod_lt _ h0) h40 i 0 k (by omega) (by omega)
  | j + 1, i, n + 1, h, hn => by
    have hx : IntKind.wrap .i64 ((s : Int) + (i : Int)) = ((s + i : Nat) : Int) := by rw [w64 (by omega) (by omega)]; omega
    rw [law25_BeaconMixes.L2, hm, hc, hs, hx, if_pos (by omega), chk_pos ⟨by omega, by omega⟩, chk_pos (by rw [List.length_take]; omega), chk_pos (by simp only [List.length_take, List.length_cons, List.length_nil]; omega), chk_pos ⟨by omega, by omega⟩,
      chk_pos (by simp only [List.length_append, List.length_take, List.length_drop, List.length_cons, List.length_nil]; omega), Mix_eq k _ _ hk, Mix_eq k _ _ hk]
    have q1 : pubB ((s + i : Nat) : Int) = true := by simp only [pubB, Bool.and_eq_true, decide_eq_true_eq]; omega
    have pt : allP (v7.take c) = true := List.all_eq_true.2 fun x hx => List.all_eq_true.1 hp x (List.mem_of_mem_take hx)
    have pd : allP (v7.drop c) = true := List.all_eq_true.2 fun x hx => List.all_eq_true.1 hp x (List.mem_of_mem_drop hx)
    have st : (v7.take c).sum + (v7.drop c).sum = (S : Int) := by rw [← List.sum_append, List.take_append_drop, hS]
    have m1 : mixF (v7.take (c : Int).toNat ++ [((s + i : Nat) : Int)] ++ v7.drop (c : Int).toNat) (m : Int) = ((((((S + s) % m + i) % m : Nat)) : Int), 0) := by
      unfold mixF
      have pa : allP (v7.take (c : Int).toNat ++ [((s + i : Nat) : Int)] ++ v7.drop (c : Int).toNat) = true := by
        unfold allP at pt pd ⊢
        simp only [Int.toNat_natCast, List.all_append, pt, pd, List.all_cons, List.all_nil, q1]; rfl
      rw [if_neg (by simp only [List.length_append, List.length_take, List.length_drop, List.length_cons, List.length_nil]; omega), if_neg (by omega), if_neg (by omega), if_pos pa]
      have : (v7.take (c : Int).toNat ++ [((s + i : Nat) : Int)] ++ v7.drop (c : Int).toNat).sum = ((S + s + i : Nat) : Int) := by
        simp only [Int.toNat_natCast, List.sum_append, List.sum_cons, List.sum_nil]; omega
      rw [this, tmodN, Nat.mod_add_mod]
    have m2 : mixF (v7 ++ [((s + i : Nat) : Int)]) (m : Int) = ((((((S + s) % m + i) % m : Nat)) : Int), 0) := by
      unfold mixF
      have pa : allP (v7 ++ [((s + i : Nat) : Int)]) = true := by
        unfold allP at hp ⊢
        simp only [List.all_append, hp, List.all_cons, List.all_nil, q1]; rfl
      rw [if_neg (by simp only [List.length_append, List.length_cons, List.length_nil]; omega), if_neg (by omega), if_neg (by omega), if_pos pa]
      have : (v7 ++ [((s + i : Nat) : Int)]).sum = ((S + s + i : Nat) : Int) := by
        simp only [List.sum_append, List.sum_cons, List.sum_nil, hS]; omega
      rw [this, tmodN, Nat.mod_add_mod]
    have hlt : ((S + s) % m + i) % m < m := Nat.mod_lt _ h0
    rw [m1, m2, bnd2_some, chk_pos (by omega), chk_pos (by simp only [List.length_cons, List.length_nil]; omega), bnd2_some, if_neg (by simp), if_neg (by simp), if_neg (by omega), if_neg (by omega), if_neg (by simp),
      chk_pos ⟨by omega, by rw [seenL_len]; omega⟩, idx_pos (by rw [seenL_len]; exact hlt), seenL_at _ _ _ (Nat.mod_lt _ h0) (by omega), chk_pos ⟨by omega, by rw [seenL_len]; omega⟩, succ64 _ (by omega), show IntKind.wrap .i64 ((0 : Int) + 1) = 1 by decide,
      Int.toNat_natCast, seenL_set _ _ _ (Nat.mod_lt _ h0) (by omega)]
    exact mixes2 k v1 v2 v3 v7 m c s S hk hm hc hs hS hA h0 h40 hcl hs2 h20 hp j (i + 1) n (by omega) (by omega)
theorem mixes1 (k : Nat) (v0 : List Int) (v1 v2 v3 : Int) (h0 : v0.length ≤ 20) (hk : 64 < k) (hA : law25_awake k = some true) (hp : allP v0 = true) (h1 : 0 ≤ v1 ∧ v1 ≤ 255) (h2 : 0 ≤ v2 ∧ v2 ≤ 255) (h3 : 0 ≤ v3 ∧ v3 ≤ 4294967295) : ∀ (j i n : Nat), i + j = v0.length → j < n →
    law25_BeaconMixes.L1 k v0 v1 v2 v3 n (i : Int) (v0.take i) = some true
  | 0, i, n + 1, h, _ => by
    rw [law25_BeaconMixes.L1, if_neg (by omega), List.take_of_length_le (by omega), w64 (n := (v0.length : Int) + 1) (by omega) (by omega), chk_pos (by omega)]
    have e2 : IntKind.wrap .i64 (1 + Int.tmod (IntKind.wrap .i64 v2) 40) = ((1 + v2.toNat % 40 : Nat) : Int) := by
      rw [w64 (n := v2) (by omega) (by omega), Int.tmod_eq_emod_of_nonneg (by omega), w64 (by omega) (by omega)]; omega
    have e1 : Int.tmod (IntKind.wrap .i64 v1) (IntKind.wrap .i64 ((v0.length : Int) + 1)) = ((v1.toNat % (v0.length + 1) : Nat) : Int) := by
      rw [w64 (n := v1) (by omega) (by omega), w64 (by omega) (by omega)]
      have := tmodN v1.toNat (v0.length + 1)
      rw [← this]; congr 1; omega
    have e3 : IntKind.wrap .i64 (Int.tdiv (IntKind.wrap .i64 v3) 2) = ((v3.toNat / 2 : Nat) : Int) := by
      rw [w64 (n := v3) (by omega) (by omega), Int.tdiv_eq_ediv_of_nonneg (by omega), w64 (by omega) (by omega)]; omega
    obtain ⟨S, hS⟩ := Int.eq_ofNat_of_zero_le (sumP v0 hp).1
    rw [e2, chk_pos ⟨by omega, by omega⟩, Int.toNat_natCast, ← seenL_0 ((S + v3.toNat / 2) % (1 + v2.toNat % 40))]
    exact mixes2 k v1 v2 v3 v0 _ _ _ S hk e2 e1 e3 hS hA (by omega) (by omega) (Nat.le_of_lt_succ (Nat.mod_lt _ (Nat.succ_pos _))) (by omega) h0 hp (1 + v2.toNat % 40) 0 k (by omega) (by omega)
  | j + 1, i, n + 1, h, hn => by
    have h4 : i < v0.length := by omega
    have hq : pubB v0[i] = true := List.all_eq_true.1 hp _ (List.getElem_mem h4)
    simp only [pubB, Bool.and_eq_true, decide_eq_true_eq] at hq
    rw [law25_BeaconMixes.L1, if_pos (by omega), idx_pos h4, w64 (by omega) (by omega), chk_pos (by simp; omega), succ64 _ (by omega), ← List.take_succ_eq_append_getElem h4]
    exact mixes1 k v0 v1 v2 v3 h0 hk hA hp h1 h2 h3 j (i + 1) n (by omega) (by omega)
theorem InR.u32 {n : Int} (h : InR .u32 n) : 0 ≤ n ∧ n ≤ 4294967295 := by
  simpa [InR, IntKind.min, IntKind.max, IntKind.bits, IntKind.signed] using h
theorem BeaconMixes_true (v0 : List Int) (v1 v2 v3 : Int) (h0 : Fit (.lst false false (v0.map (.int .u32)))) (h1 : Fit (.int .u8 v1)) (h2 : Fit (.int .u8 v2)) (h3 : Fit (.int .u32 v3)) : law25_BeaconMixes 1000 v0 v1 v2 v3 = some true := by
  unfold law25_BeaconMixes
  by_cases a : 20 < (v0.length : Int)
  · rw [if_pos a, awake25]; rfl
  rw [if_neg a]
  have := h0.ints
  refine mixes1 1000 v0 v1 v2 v3 (by omega) (by omega) awake25 ?_ ?_ ?_ ?_ v0.length 0 1000 (by omega) (by omega)
  · refine List.all_eq_true.2 fun x hx => ?_
    have := InR.u32 (this.2 x hx)
    simp only [pubB, Bool.and_eq_true, decide_eq_true_eq]; omega
  · exact InR.u8 (by simpa [Fit] using h1)
  · exact InR.u8 (by simpa [Fit] using h2)
  · exact InR.u32 (by simpa [Fit] using h3)
end Go.TF
