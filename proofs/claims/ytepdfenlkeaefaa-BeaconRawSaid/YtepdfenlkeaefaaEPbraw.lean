/- The law BeaconRaw. -/
import Derived.Test.YtepdfenlkeaefaaEPbnum
set_option linter.unusedVariables false
set_option linter.unusedSimpArgs false
namespace Go.TF
open Go Go.Abs

theorem ofI_sz (l : List Int) : (ofI l).size = l.length := by simp [ofI, ByteArray.size]
theorem braw2 (v7 : ByteArray) (v10 v30 : Int) (kb : ByteArray → List Int → Int → Int → Option Bool) : ∀ (m i n : Nat) (w : List Int), i + m = w.length → m < n → w.length ≤ 100 →
    (∀ l : List Int, l.length = w.length → kb ((v7 ++ (ofI (List.replicate (32 : Int).toNat 0))).extract 0 (32 : Int).toNat) l v30 (IntKind.wrap .i64 (v10 + 1)) = some true) → law25_BeaconRaw.L2 1000 v7 v10 v30 kb n (i : Int) w = some true
  | 0, i, n + 1, w, h, _, _, hk => by
    rw [law25_BeaconRaw.L2, if_neg (by omega)]; exact hk w rfl
  | m + 1, i, n + 1, w, h, hn, hw, hk => by
    rw [law25_BeaconRaw.L2, if_pos (by omega), chk_pos ⟨by omega, by omega⟩, idx_pos (by omega)]
    unfold mill_Mod
    rw [Mod_eq, bnd1_some, bnd1_some, chk_pos ⟨by omega, by omega⟩, succ64 _ (by omega)]
    exact braw2 v7 v10 v30 kb m (i + 1) n _ (by rw [List.length_set]; omega) (by omega) (by rw [List.length_set]; omega) (fun l hl => hk l (by rw [hl, List.length_set]))
theorem mMod_eq (k : Nat) (a b : Int) : mill_Mod k a b = some (modF a b) := by unfold mill_Mod; rw [Mod_eq, bnd1_some]
theorem braw1 (v1 : ByteArray) : ∀ (m i n : Nat) (v7 : ByteArray) (v8 : List Int) (v9 : Int), i + m = 2 → m < n → v7.size ≤ 1000000 → v8.length ≤ 100 → law25_BeaconRaw.L1 1000 v1 n v7 v8 v9 (i : Int) = some true
  | 0, i, n + 1, v7, v8, v9, h, _, _, _ => by rw [law25_BeaconRaw.L1, if_neg (by omega), awake25]; rfl
  | m + 1, i, n + 1, v7, v8, v9, h, hn, h7, h8 => by
    rw [law25_BeaconRaw.L1, if_pos (by omega), Next25_eq _ (by omega), refNext25_eq _ (by omega), Numbers_eq _ (by omega), refNumbers_eq _ (by omega), Mix_eq _ _ _ (by omega), refMix_eq _ _ _ (by omega), Commit_eq _ (by omega), refCommit_eq _ (by omega)]
    have hl := numsF_len v7 v8 v9
    obtain ⟨a, b⟩ := nextF v7 v9 v8
    obtain ⟨⟨c, d⟩, hcd⟩ : ∃ p, numsF v7 v8 v9 = p := ⟨_, rfl⟩
    rw [hcd] at hl ⊢
    obtain ⟨e, f⟩ := mixF v8 v9
    obtain ⟨g, j⟩ := commF v9 v1
    obtain ⟨o, ho⟩ := Opens_some 1000 (by omega) v7 v9 v1
    have hl : c.length ≤ 64 := hl
    rw [bnd2_some, bnd2_some, bnd2_some, bnd2_some, bnd2_some, bnd2_some, bnd2_some, bnd2_some, strEq_self, if_neg (by simp), if_neg (by simp), if_neg (by simp), same23_refl _ _ (by omega) (by omega), bnd1_some, if_neg (by simp), if_neg (by simp), if_neg (by simp), strEq_self, if_neg (by simp), if_neg (by simp),
      Opens_eq _ (by omega), ho, bnd1_some, bnd1_some, if_neg (by simp), chk_pos (by omega), chk_pos (by rw [ofI_sz]; simp; omega), chk_pos (by rw [ByteArray.size_append, ofI_sz]; simp; omega), mMod_eq, bnd1_some, let1_eq]
    have hq : ∃ q : Nat, (if 20 < (v8.length : Int) then 20 else (v8.length : Int)) = (q : Int) ∧ q ≤ v8.length := by
      split
      · exact ⟨20, rfl, by omega⟩
      · exact ⟨_, rfl, by omega⟩
    obtain ⟨q, hq, hq2⟩ := hq
    rw [hq, chk_pos ⟨by omega, by omega⟩, Int.toNat_natCast, chk_pos (by rw [List.length_take]; omega)]
    refine braw2 v7 _ _ _ (v8.take q).length 0 1000 (v8.take q) (by omega) (by rw [List.length_take]; omega) (by rw [List.length_take]; omega) fun l hl => ?_
    rw [succ64 _ (by omega)]
    refine braw1 v1 m (i + 1) n _ l _ (by omega) (by omega) ?_ (by rw [hl, List.length_take]; omega)
    rw [ByteArray.size_extract]; have : (32 : Int).toNat = 32 := rfl; omega
theorem BeaconRaw_true (v0 v1 : ByteArray) (v2 : List Int) (v3 : Int) (h0 : Fit (.str v0)) (h1 : Fit (.str v1)) (h2 : Fit (.lst false false (v2.map (.int .i64)))) (h3 : Fit (.int .i64 v3)) (b0 : v0.size ≤ 140737488351232) (b1 : v1.size ≤ 140737488351232) : law25_BeaconRaw 1000 v0 v1 v2 v3 = some true := by
  unfold law25_BeaconRaw
  by_cases a : 100 < (v2.length : Int)
  · rw [if_pos a, awake25]; rfl
  rw [if_neg a]
  rw [w64 (by omega) (by omega)]
  by_cases b : 300 < (v0.size : Int) + (v1.size : Int)
  · rw [if_pos b, awake25]; rfl
  rw [if_neg b]
  exact braw1 v1 2 0 1000 v0 v2 v3 (by omega) (by omega) (by omega) (by omega)
end Go.TF
