/- Plain laws: greatest flows and least sides of the reference. -/
import Derived.Test.YtjmcidiplbkmpaaEaPfm
set_option linter.unusedVariables false
set_option linter.unusedSimpArgs false
namespace Go.TF
open Go Go.Abs
def rb (V : Vs) (v : Int) : Int := match lk V v with
 | none => 0
 | some s => if s.2 then -((s.1 : Int) + 1) else (s.1 : Int) + 1
def sn (V : Vs) (v : Int) : Bool := decide (v = 0 ∨ v ∈ V.map (·.1))
theorem rb_cons (t : Int) (s : Mf.Step) (V : Vs) (v : Int) : rb ((t, s) :: V) v = if v = t then (if s.2 then -((s.1 : Int) + 1) else (s.1 : Int) + 1) else rb V v := by
 unfold rb; rw [lk]
 by_cases e : v = t
 ·rw [if_pos e, if_pos e]
 ·rw [if_neg e, if_neg e]
theorem sn_cons (t : Int) (s : Mf.Step) (V : Vs) (v : Int) : sn ((t, s) :: V) v = if v = t then true else sn V v := by
 unfold sn
 by_cases e : v = t
 ·rw [if_pos e]; simp [e]
 ·rw [if_neg e]
  refine decide_eq_decide.2 ?_
  rw [List.map_cons, List.mem_cons]
  constructor
  ·rintro (z | z | z)
   ·exact .inl z
   ·exact absurd z e
   ·exact .inr z
  ·rintro (z | z)
   ·exact .inl z
   ·exact .inr (.inr z)
end Go.TF
