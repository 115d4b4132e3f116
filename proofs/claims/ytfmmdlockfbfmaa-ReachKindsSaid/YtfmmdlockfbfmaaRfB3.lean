import Derived.Test.YtfmmdlockfbfmaaRfUse
set_option linter.unusedVariables false
set_option linter.unusedSimpArgs false
namespace Go.Rf
def idxF {X : Type} (p : X → Bool) (l : List X) : Int := if l.any p = true then (l.findIdx p : Int) else -1
theorem idxF_nonneg {X : Type} (p : X → Bool) (l : List X) : decide (0 ≤ idxF p l) = l.any p := by
  unfold idxF
  cases h : l.any p with
  | true => simp
  | false => simp
end Go.Rf

