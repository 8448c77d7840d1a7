/- The law CommitteeApart. -/
import Derived.Test.YtepdfenlkeaefaaJPcomm
set_option linter.unusedVariables false
set_option linter.unusedSimpArgs false
namespace Go.TF
open Go Go.Abs

theorem foldf_nonneg : ∀ (l : List Int) (a : Int), 0 ≤ a → (∀ x ∈ l, 0 ≤ x) → 0 ≤ l.foldl f256 a
  | [], a, h, _ => h
  | x :: l, a, h, hx => by
    rw [List.foldl_cons]
    refine foldf_nonneg l _ ?_ fun y hy => hx y (by simp [hy])
    have := hx x (by simp)
    unfold f256; omega
theorem numAt_nonneg (h : List Int) (i : Int) : 0 ≤ numAt h i := by
  unfold numAt
  refine foldf_nonneg _ _ (by omega) fun x hx => ?_
  have := List.mem_of_mem_take hx
  unfold bI at this
  obtain ⟨y, _, rfl⟩ := List.mem_map.1 this
  omega
theorem numsF9 (v : ByteArray) (t : List Int) (hv : v.size = 32) (ht : t.length = 4) : ∃ nu, numsF v t 9 = (nu, 0) ∧ nu.length = 9 ∧ ∀ x ∈ nu, 0 ≤ x := by
  unfold numsF
  rw [if_neg (by omega), if_neg (by omega), if_neg (by omega), if_neg (by omega)]
  refine ⟨_, rfl, by rw [numsN_len]; rfl, fun x hx => ?_⟩
  unfold numsN at hx
  obtain ⟨i, _, rfl⟩ := List.mem_map.1 hx
  exact numAt_nonneg _ _
/-- Keys that are drawn are in the roster, once; and so many are left. -/
theorem drawn_rest : ∀ (xs left : List Int), left.Nodup → xs.length ≤ left.length → (left.filter fun z => !decide (z ∈ drawn left xs)).length = left.length - xs.length ∧ (drawn left xs).Nodup ∧ ∀ z ∈ drawn left xs, z ∈ left
  | [], left, _, _ => by
    have : (left.filter fun z => !decide (z ∈ drawn left [])) = left := by
      refine List.filter_eq_self.2 fun z _ => ?_
      simp [drawn]
    rw [this]
    exact ⟨by simp, by simp [drawn], by simp [drawn]⟩
  | x :: xs, left, hd, hl => by
    have hpos : 0 < left.length := by rw [List.length_cons] at hl; omega
    have hj : (x % (left.length : Int)).toNat < left.length := by
      have := Int.emod_lt_of_pos x (show (0 : Int) < left.length by omega)
      have := Int.emod_nonneg x (show (left.length : Int) ≠ 0 by omega)
      omega
    rw [drawn]
    generalize (x % (left.length : Int)).toNat = j at hj
    have hsplit : left = left.take j ++ left[j] :: left.drop (j + 1) := by rw [← List.drop_eq_getElem_cons hj, List.take_append_drop]
    have hget : left.getD j 0 = left[j] := by rw [List.getD_eq_getElem?_getD, List.getElem?_eq_getElem hj]; rfl
    have hrl := rest_len left j hj
    rw [hget]
    have hd2 := hd
    rw [hsplit, List.nodup_append] at hd2
    obtain ⟨n1, n2, n3⟩ := hd2
    rw [List.nodup_cons] at n2
    have hrest : (left.take j ++ left.drop (j + 1)).Nodup := by
      rw [List.nodup_append]
      exact ⟨n1, n2.2, fun a ha b hb => n3 a ha b (List.mem_cons_of_mem _ hb)⟩
    have hy : ¬ left[j] ∈ left.take j ++ left.drop (j + 1) := by
      rw [List.mem_append]
      rintro (h | h)
      · exact n3 _ h _ List.mem_cons_self rfl
      · exact n2.1 h
    obtain ⟨i1, i2, i3⟩ := drawn_rest xs (left.take j ++ left.drop (j + 1)) hrest (by rw [hrl]; rw [List.length_cons] at hl; omega)
    generalize drawn (left.take j ++ left.drop (j + 1)) xs = D at i1 i2 i3
    have hyD : ¬ left[j] ∈ D := fun h => hy (i3 _ h)
    refine ⟨?_, by rw [List.nodup_cons]; exact ⟨hyD, i2⟩, ?_⟩
    · have e : (left.filter fun z => !decide (z ∈ left[j] :: D)) = (left.take j ++ left.drop (j + 1)).filter fun z => !decide (z ∈ D) := by
        have g : ∀ l : List Int, (¬ left[j] ∈ l) → (l.filter fun z => !decide (z ∈ left[j] :: D)) = l.filter fun z => !decide (z ∈ D) := by
          intro l hl
          refine List.filter_congr fun z hz => ?_
          have : ¬ z = left[j] := by rintro rfl; exact hl hz
          simp [this]
        have g1 := g (left.take j) (fun h => hy (by simp [h]))
        have g2 := g (left.drop (j + 1)) (fun h => hy (by simp [h]))
        conv => lhs; arg 2; rw [hsplit]
        rw [List.filter_append, List.filter_cons, if_neg (by simp), g1, g2, List.filter_append]
      rw [e, i1, hrl, List.length_cons]; omega
    · intro z hz
      rcases List.mem_cons.1 hz with rfl | hz
      · exact List.getElem_mem hj
      · have := i3 z hz
        rcases List.mem_append.1 this with h | h
        · exact List.mem_of_mem_take h
        · exact List.mem_of_mem_drop h
theorem pair_nodup {l : List Int} (h : l.Pairwise (· < ·)) : l.Nodup := by
  refine List.Pairwise.imp (fun {a b} h => ?_) h
  show a ≠ b
  omega
theorem setM_filter (l a : List Int) (h : okR l = true) : setM l a = l.filter fun z => !decide (z ∈ a) := by
  have h1 : asc (-1) l = true := by simp [okR] at h; exact h.2
  have hs : asc (-1) (setM l a) = true := by unfold setM sel; exact asc_selF 64 0 (-1) (by omega) (by omega)
  refine pair_ext (asc_pair hs).1 (List.Pairwise.filter _ (asc_pair h1).1) fun x => ?_
  rw [mem_setM, List.mem_filter]
  constructor
  · rintro ⟨_, _, h2, h3⟩; exact ⟨h2, by simpa using h3⟩
  · rintro ⟨h2, h3⟩
    have := asc_range h1 x h2
    exact ⟨this.1, this.2, h2, by simpa using h3⟩
theorem okR_setM (l a : List Int) (h : setM l a ≠ []) : okR (setM l a) = true := by
  unfold okR
  have hs : asc (-1) (setM l a) = true := by unfold setM sel; exact asc_selF 64 0 (-1) (by omega) (by omega)
  rw [hs]; simp [h]
theorem apart2 : law26_CommitteeApart.L2 1000 1000 1 = some true := by decide +kernel
theorem apart1 (l a b : List Int) (hl : l.length ≤ 100) (hab : (a ++ b).length ≤ 100) (hm : ∀ z ∈ a ++ b, z ∈ l) (hd : (a ++ b).Nodup) : ∀ (m i n : Nat), i + m = (a ++ b).length → m < n → law26_CommitteeApart.L1 1000 l a b n (i : Int) = some true
  | 0, i, n + 1, h, _ => by rw [law26_CommitteeApart.L1, if_neg (by omega)]; exact apart2
  | m + 1, i, n + 1, h, hn => by
    have h1 : i < (a ++ b).length := by omega
    have h2 := hm _ (List.getElem_mem h1)
    have h3 : ¬ (a ++ b)[i] ∈ (a ++ b).take i := by
      intro hc
      obtain ⟨q, hq, e⟩ := List.getElem_of_mem hc
      rw [List.getElem_take] at e
      rw [List.length_take] at hq
      have := (List.getElem_inj (h₀ := by omega) (h₁ := h1) hd).1 e
      omega
    rw [law26_CommitteeApart.L1, if_pos (by omega), idx_pos h1, refHas_eq _ _ _ (by omega) (by omega), bnd1_some]
    have d1 : decide ((a ++ b)[i] ∈ l) = true := by simpa using h2
    have d2 : decide ((a ++ b)[i] ∈ (a ++ b).take i) = false := by simpa using h3
    rw [d1, if_neg (by simp), chk_pos ⟨by omega, by omega⟩, Int.toNat_natCast, refHas_eq _ _ _ (by rw [List.length_take]; omega) (by rw [List.length_take]; omega), bnd1_some, d2, if_neg (by simp), succ64 _ (by omega)]
    exact apart1 l a b hl hab hm hd m (i + 1) n (by omega) (by omega)
/-- What the first committee is, and the second one. -/
theorem Of_made (g s t : List Int) (lv seats span quota : Int) (val : ByteArray) (l : List Int) (ep kind subj : Int) (hg : g.length ≤ 100) (hs : s.length ≤ 100) (ht : t.length ≤ 100) (hl : l.length ≤ 64) (hr : ruleE g s t lv seats span quota = 0) (ho : okR l = true) (hv : val.size = 32)
    (hse : 1 ≤ seats ∧ seats ≤ 9) (hep : 0 ≤ ep ∧ ep < 3) (hk : kind = 2 ∨ kind = 3) (hsu : 0 ≤ subj ∧ subj < 9) :
    ∃ xs ys : List Int, xs.length = (cnt l seats).toNat ∧ committee_Of 1000 g s t lv seats span quota val l ep kind subj 0 = some (drawn l xs, 0) ∧
      ys.length = (cnt (setM l (drawn l xs)) seats).toNat ∧ committee_Of 1000 g s t lv seats span quota val l ep kind subj 1 = if (setM l (drawn l xs)).length = 0 then some ([], 44) else some (drawn (setM l (drawn l xs)) ys, 0) := by
  have cv : ∀ rd : Int, 0 ≤ rd ∧ rd ≤ 1 → cases_Valid 1000 ep kind subj rd = some true := by
    intro rd hrd
    unfold cases_Valid cases_Valid.J1
    rw [if_neg (by omega), if_neg (by omega), if_neg (by omega), if_neg (by omega), if_neg (by omega), if_neg (by omega)]
    rcases hk with rfl | rfl
    · rw [if_neg (by omega), if_pos rfl]; rfl
    · rw [if_neg (by omega), if_neg (by omega)]; rfl
  obtain ⟨nu, e1, l1, p1⟩ := numsF9 val [ep, kind, subj, 0] hv rfl
  obtain ⟨nu2, e2, l2, p2⟩ := numsF9 val [ep, kind, subj, 1] hv rfl
  have hlp := okR_pos ho
  have hc : 0 ≤ cnt l seats ∧ cnt l seats ≤ 9 := by unfold cnt; split <;> omega
  have f1 := drawF_all l nu seats ho hse.1 hse.2 l1 p1
  refine ⟨nu.take (cnt l seats).toNat, nu2.take (cnt (setM l (drawn l (nu.take (cnt l seats).toNat))) seats).toNat, by rw [List.length_take]; omega, ?_, ?_, ?_⟩
  · unfold committee_Of committee_draw
    rw [Check24_eq 1000 g s t lv seats span quota (by omega) (by omega) (by omega) (by omega) (by omega) (by omega), hr, bnd1_some, if_neg (by omega), Valid_eq 1000 l (by omega) (by omega), ho, bnd1_some, if_neg (by simp), cv 0 (by omega), bnd1_some, if_neg (by simp),
      Numbers_eq 1000 (by omega), e1, bnd2_some, if_neg (by omega), Draw_eq 1000 l nu seats (by omega) (by omega) (by omega), f1, bnd2_some, bnd2_some, if_neg (by omega), if_pos rfl]
  · have hml := setM_len l (drawn l (nu.take (cnt l seats).toNat))
    have : 0 ≤ cnt (setM l (drawn l (nu.take (cnt l seats).toNat))) seats ∧ cnt (setM l (drawn l (nu.take (cnt l seats).toNat))) seats ≤ 9 := by unfold cnt; split <;> omega
    rw [List.length_take]; omega
  · have hdl := drawn_len (nu.take (cnt l seats).toNat) l
    rw [List.length_take] at hdl
    unfold committee_Of committee_draw
    rw [Check24_eq 1000 g s t lv seats span quota (by omega) (by omega) (by omega) (by omega) (by omega) (by omega), hr, bnd1_some, if_neg (by omega), Valid_eq 1000 l (by omega) (by omega), ho, bnd1_some, if_neg (by simp), cv 1 (by omega), bnd1_some, if_neg (by simp),
      Numbers_eq 1000 (by omega), e1, bnd2_some, if_neg (by omega), Draw_eq 1000 l nu seats (by omega) (by omega) (by omega), f1, bnd2_some, bnd2_some, if_neg (by omega), if_neg (by omega), Minus_eq 1000 l _ (by omega) (by omega) (by omega) (by omega) (by omega), bnd1_some]
    have hml := setM_len l (drawn l (nu.take (cnt l seats).toNat))
    by_cases z : (setM l (drawn l (nu.take (cnt l seats).toNat))).length = 0
    · rw [if_pos (by omega), if_pos z]
    · have hne : setM l (drawn l (nu.take (cnt l seats).toNat)) ≠ [] := by intro h; rw [h] at z; exact z rfl
      rw [if_neg (by omega), if_neg z, Numbers_eq 1000 (by omega), e2, bnd2_some, if_neg (by omega), Draw_eq 1000 _ nu2 seats (by omega) (by omega) (by omega), drawF_all _ nu2 seats (okR_setM l _ hne) hse.1 hse.2 l2 p2, bnd2_some, bnd2_some]
theorem CommitteeApart_true (v0 : List Int) (v1 : ByteArray) (h0 : Fit (.lst false false (v0.map (.int .i64)))) (h1 : Fit (.str v1)) : law26_CommitteeApart 1000 v0 v1 = some true := by
  unfold law26_CommitteeApart
  rw [mLight_eq, bnd1_some]
  by_cases hb : (v0.length : Int) ≤ 400
  case neg => rw [if_pos (by simp [hb]), awake26]; rfl
  rw [if_neg (by simp [hb])]
  by_cases h200 : 200 < (v1.size : Int)
  · rw [if_pos h200, awake26]; rfl
  rw [if_neg h200]
  have hl : v0.length ≤ 1000 := by omega
  obtain ⟨g, s, t, lv, se, sp, qu, q, e1, q1, G⟩ := Rules_eq 1000 v0 0 hl ⟨by omega, by omega⟩
  obtain ⟨b1, b2, b3⟩ := G.lens
  obtain ⟨L, q2, e2, hq2, ho, _, hL⟩ := Keys_eq 1000 v0 q hl q1 8 (by omega) (by omega) (by omega)
  obtain ⟨ep, q3, e3, hq3, hep⟩ := Next_eq 1000 v0 q2 3 hl hq2
  obtain ⟨kd, q4, e4, hq4, hkd⟩ := Next_eq 1000 v0 q3 2 hl hq3
  obtain ⟨su, q5, e5, hq5, hsu⟩ := Next_eq 1000 v0 q4 9 hl hq4
  have hep := hep (by omega) (by omega)
  have hkd := hkd (by omega) (by omega)
  have hsu := hsu (by omega) (by omega)
  have hse : 1 ≤ se ∧ se ≤ 9 := by have := G.seats; simp at this; omega
  have hz : (ofI (List.replicate (32 : Int).toNat 0)).size = 32 := by rw [ofI_sz26]; rfl
  have hvs : ((v1 ++ ofI (List.replicate (32 : Int).toNat 0)).extract 0 (32 : Int).toNat).size = 32 := by
    rw [ByteArray.size_extract, ByteArray.size_append, hz]; have : (32 : Int).toNat = 32 := rfl; omega
  have hlp := okR_pos ho
  have hasc : asc (-1) L = true := by simp [okR] at ho; exact ho.2
  have hnd : L.Nodup := pair_nodup (asc_pair hasc).1
  rw [mRoll_eq, bnd2_some, e1]
  simp only [bnd8]
  rw [chk_pos (by omega), chk_pos (by rw [hz]; omega), chk_pos (by rw [ByteArray.size_append, hz]; omega), e2, bnd2_some, e3, bnd2_some, e4, bnd2_some, e5, bnd2_some, w64 (n := 2 + kd) (by omega) (by omega)]
  generalize (v1 ++ ofI (List.replicate (32 : Int).toNat 0)).extract 0 (32 : Int).toNat = val at hvs
  obtain ⟨xs, ys, hx, d1, hy, d2⟩ := Of_made g s t lv se sp qu val L ep (2 + kd) su (by omega) (by omega) (by omega) hL G.ok ho hvs hse hep (by omega) hsu
  have hxl : (xs.length : Int) = if (L.length : Int) < se then (L.length : Int) else se := by
    rw [hx]; unfold cnt; split <;> omega
  have hxle : xs.length ≤ L.length := by split at hxl <;> omega
  obtain ⟨r1, r2, r3⟩ := drawn_rest xs L hnd hxle
  have hal := drawn_len xs L
  have hmf := setM_filter L (drawn L xs) ho
  rw [← hmf] at r1
  rw [d1, d2, bnd2_some]
  by_cases hsm : (L.length : Int) ≤ se
  · have : (setM L (drawn L xs)).length = 0 := by rw [r1]; split at hxl <;> omega
    rw [if_pos this, bnd2_some, if_neg (by omega), let1_eq, if_neg (by rw [hal, hxl]; simp), if_pos hsm, if_pos rfl, if_pos (by simp), awake26]; rfl
  · have hxs : (xs.length : Int) = se := by split at hxl <;> omega
    have hml : (setM L (drawn L xs)).length ≠ 0 := by rw [r1]; omega
    have hne : setM L (drawn L xs) ≠ [] := by intro h; rw [h] at hml; exact hml rfl
    have hmn : (setM L (drawn L xs)).Nodup := by rw [hmf]; exact hnd.filter _
    have hyl : (ys.length : Int) = if ((setM L (drawn L xs)).length : Int) < se then ((setM L (drawn L xs)).length : Int) else se := by rw [hy]; unfold cnt; split <;> omega
    have hyle : ys.length ≤ (setM L (drawn L xs)).length := by split at hyl <;> omega
    obtain ⟨t1, t2, t3⟩ := drawn_rest ys (setM L (drawn L xs)) hmn hyle
    have hbl := drawn_len ys (setM L (drawn L xs))
    rw [if_neg hml, bnd2_some, if_neg (by omega), let1_eq, if_neg (by rw [hal, hxl]; simp), if_neg hsm, if_neg (by omega), let1_eq, w64 (n := (L.length : Int) - ((drawn L xs).length : Int)) (by omega) (by omega)]
    have hr1 : ((setM L (drawn L xs)).length : Int) = (L.length : Int) - ((drawn L xs).length : Int) := by rw [r1, hal]; omega
    rw [if_neg (by rw [hbl, hyl, hr1]; simp), chk_pos (by omega), chk_pos (by omega), show (0 : Int) = ((0 : Nat) : Int) from rfl]
    have hmem : ∀ z ∈ drawn (setM L (drawn L xs)) ys, z ∈ L ∧ ¬ z ∈ drawn L xs := fun z hz => by
      have := t3 z hz
      rw [hmf, List.mem_filter] at this
      exact ⟨this.1, by simpa using this.2⟩
    refine apart1 L _ _ (by omega) (by rw [List.length_append]; omega) ?_ ?_ (drawn L xs ++ drawn (setM L (drawn L xs)) ys).length 0 1000 (by omega) (by rw [List.length_append]; omega)
    · intro z hz
      rcases List.mem_append.1 hz with h | h
      · exact r3 z h
      · exact (hmem z h).1
    · rw [List.nodup_append]
      exact ⟨r2, t2, fun a ha b hb => by rintro rfl; exact (hmem a hb).2 ha⟩
end Go.TF
