/- The law GuardianAll. -/
import Derived.Test.YtepdfenlkeaefaaFPgall
set_option linter.unusedVariables false
set_option linter.unusedSimpArgs false
namespace Go.TF
open Go Go.Abs
theorem gall_L1 (k : Nat) (hk : 10000 < k) (v1 : List api_Statement) (v6 : List Int) (h1 : v1.length ≤ 10) (hf : ∀ s ∈ v1, FitK k s) (h6 : v6.length ≤ 1000) : ∀ (j n : Nat) (p : Int) (w : List api_Statement), j < n → j + w.length ≤ 20 → Pos p → (∀ s ∈ w, FitK k s) →
 law34_GuardianAll.L1 k v1 v6 n (j : Int) p w = some true
 | 0, n + 1, p, w, _, hw, _, hg => by
  rw [law34_GuardianAll.L1, if_neg (by omega), chk_pos (by omega), show (0 : Int) = ((0 : Nat) : Int) from rfl]
  exact gall_L3 k hk v1 w (by simp; omega) (fun s hs => by rcases List.mem_append.1 hs with h | h; exact hg s h; exact hf s h) (w ++ v1).length 0 k (by omega) (by simp; omega)
 | j + 1, n + 1, p, w, hn, hw, hp, hg => by
  obtain ⟨o, need, g, q, e1, hgl, hq⟩ := guard_eq k (by omega) v6 p h6 hp
  have b4 : ∀ f : Int → Int → List Int → Int → Option Bool, bnd4 (some (o, need, g, q)) f = f o need g q := fun _ => rfl
  obtain ⟨a, q2, e2, hq2, _⟩ := Next_eq k v6 q 3 h6 hq
  obtain ⟨c, q3, e3, hq3, _⟩ := Next_eq k v6 q2 8 h6 hq2
  have pj : IntKind.wrap .i64 (((j + 1 : Nat) : Int) - 1) = (j : Int) := by rw [w64 (by omega) (by omega)]; omega
  rw [law34_GuardianAll.L1, if_pos (by omega), e1, b4, mMod34, bnd1_some, e2, bnd2_some, let1_eq, mStatement_eq k hk _ _ _ _ _ _ _ _ hgl, bnd1_some, e3, bnd2_some]
  have key : ∀ x y z : Int, law34_GuardianAll.J2 k ((j + 1 : Nat) : Int) w (⟨modF o 64, a, (if 0 < a then ofI (List.replicate 32 0) else ByteArray.mk #[]), 0, 12, (if 0 < need then need else 0), 0, 0, g, [], ByteArray.mk #[], modF o 64,
   digS (modF o 64) a (if 0 < a then ofI (List.replicate 32 0) else ByteArray.mk #[]) 0 12 (if 0 < need then need else 0) 0 0 g [] (ByteArray.mk #[])⟩ : api_Statement) (fun v10_ v11_ v12_ => law34_GuardianAll.L1 k v1 v6 n v10_ v11_ v12_) q3 x y z = some true := by
   intro x y z
   unfold law34_GuardianAll.J2
   rw [chk_pos (by simp only [List.length_cons, List.length_nil]; omega), pj]
   refine gall_L1 k hk v1 v6 h1 hf h6 j n q3 _ (by omega) (by simp only [List.length_append, List.length_cons, List.length_nil]; omega) hq3 fun s hs => ?_
   rcases List.mem_append.1 hs with h | h
   ·exact hg s h
   ·simp only [List.mem_singleton] at h
    subst h
    exact ⟨by show g.length ≤ _; omega, by show g.length < k; omega, by show ([] : List api_Pin).length < k; simp; omega⟩
  split
  ·exact key _ _ _
  split
  ·exact key _ _ _
  split
  ·exact key _ _ _
  ·exact key _ _ _
theorem sum_ge (f : api_Statement → Nat) : ∀ (l : List api_Statement) (s : api_Statement), s ∈ l → f s ≤ (l.map f).sum
 | x :: l, s, h => by
  rw [List.map_cons, List.sum_cons]
  rcases List.mem_cons.1 h with rfl | h
  ·omega
  ·have := sum_ge f l s h; omega
theorem GuardianAll_ex (v0 : List Int) (v1 : List api_Statement) (h0 : Fit (.lst false false (v0.map (.int .i64)))) (h1 : Fit (.lst false false (v1.map api_Statement.av))) : ∃ k, law34_GuardianAll k v0 v1 = some true := by
 refine ⟨(v1.map fun s => s.Lst.length + s.Pins.length).sum + 10001, ?_⟩
 have hk : 10000 < (v1.map fun s => s.Lst.length + s.Pins.length).sum + 10001 := by omega
 have hf : ∀ s ∈ v1, FitK ((v1.map fun s => s.Lst.length + s.Pins.length).sum + 10001) s := by
  intro s hs
  have h2 := sum_ge (fun s => s.Lst.length + s.Pins.length) v1 s hs
  have h3 : Fit s.av := fitL_map.1 (by simpa [Fit] using h1.2) s hs
  have h4 : s.Lst.length ≤ maxLen := by
   simp only [api_Statement.av, Fit, FitL] at h3
   have := h3.2.2.2.2.2.2.2.2.1
   unfold sl at this
   simp only [Fit, List.length_map] at this
   exact this.1
  unfold maxLen at h4
  exact ⟨by omega, by omega, by omega⟩
 generalize (v1.map fun s => s.Lst.length + s.Pins.length).sum + 10001 = k at hk hf
 have aw := awake34' k (by omega)
 unfold law34_GuardianAll mill_Light mill_Roll
 rw [bnd1_some]
 by_cases a0 : ¬ (v0.length : Int) ≤ 400
 ·rw [if_pos (by simp; omega), aw]; rfl
 rw [if_neg (by simp; omega)]
 by_cases a1 : 10 < (v1.length : Int)
 ·rw [if_pos a1, aw]; rfl
 rw [if_neg a1, Roll_eq, bnd2_some, bnd2_some]
 obtain ⟨a, q, e, hq, ha⟩ := Next_eq k v0 0 7 (by omega) (by decide)
 have ha := ha (by omega) (by omega)
 obtain ⟨j, rfl⟩ := Int.eq_ofNat_of_zero_le ha.1
 rw [e, bnd2_some]
 exact gall_L1 k hk v1 v0 (by omega) hf (by omega) j k q [] (by omega) (by simp; omega) hq (by simp)
end Go.TF
