import Derived.Test.YtfmmdlockfbfmaaRfL10
import Derived.Lib.SlicesCompact
import Derived.Lib.RowBridge
/- Own work: numbers, rising, each once. -/
set_option linter.unusedVariables false
set_option linter.unusedSimpArgs false
namespace Go.Rf

def setF (l : List Int) : List Int := Lib.compact (l.mergeSort fun x y => decide (x ≤ y))
/-- Do they rise, from a to below b? -/
def risesB (l : List Int) (a b : Int) : Bool := decide (l.Pairwise (· < ·)) && l.all fun x => decide (a ≤ x) && decide (x < b)
def RisesP (l : List Int) (a b : Int) : Prop := l.Pairwise (· < ·) ∧ ∀ x ∈ l, a ≤ x ∧ x < b
end Go.Rf

