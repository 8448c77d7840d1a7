/- Plain laws: greatest flows of the reference; sides and their capacities. -/
import Derived.Test.YtjmcidiplbkmpaaTaPrs
set_option linter.unusedVariables false
set_option linter.unusedSimpArgs false
namespace Go.TF
open Go Go.Abs
theorem rb_at {V W : Vs} {t : Int} {s : Mf.Step} (h : t ∉ W.map (·.1)) : rb (W ++ (t, s) :: V) t = if s.2 then -((s.1 : Int) + 1) else (s.1 : Int) + 1 := by
 unfold rb; rw [lk_at h]
end Go.TF
