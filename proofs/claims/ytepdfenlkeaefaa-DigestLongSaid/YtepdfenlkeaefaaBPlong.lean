/- The law DigestLong. -/
import Derived.Test.YtepdfenlkeaefaaBPsha
import Derived.Test.YtepdfenlkeaefaaBPmade
set_option linter.unusedVariables false
set_option linter.unusedSimpArgs false
namespace Go.TF
open Go Go.Abs

theorem awake01 : law01_awake 1000 = some true := by decide +kernel
theorem long_loop (v1 : Int) : ∀ (m i n : Nat) (w : List Int), i + m = w.length → m < n → w.length ≤ 300 → law01_DigestLong.L1 1000 v1 n (i : Int) w = some true
  | 0, i, n + 1, w, h, _, hw => by
    rw [law01_DigestLong.L1, if_neg (by omega), awake01, bnd1_some, if_pos rfl, Sum_p 1000 w (by omega) (by omega) (by omega), bnd1_some, Sum_r 1000 w (by omega) (by omega) (by omega), bnd1_some, if_pos (strEq_self _), bnd1_some, shaS_size]
    rfl
  | m + 1, i, n + 1, w, h, hn, hw => by
    rw [law01_DigestLong.L1, if_pos (by omega), chk_pos ⟨by omega, by rw [Int.toNat_natCast]; omega⟩, succ64 i (by omega)]
    exact long_loop v1 m (i + 1) n _ (by simp; omega) (by omega) (by simp; omega)
theorem DigestLong_true (v0 v1 : Int) (h0 : Fit (.int .i64 v0)) (h1 : Fit (.int .u8 v1)) : law01_DigestLong 1000 v0 v1 = some true := by
  unfold law01_DigestLong
  have hr := modF_range v0 200 (by omega) (by omega)
  rw [Mod_eq, bnd1_some, chk_pos (by omega)]
  exact long_loop v1 _ 0 1000 (List.replicate (modF v0 200).toNat 0) (by simp; rfl) (by simp; omega) (by simp; omega)
end Go.TF
