import Derived.Test.YtidkjfaeolfcaaaGreatRfNb
import Derived.Test.YtidkjfaeolfcaaaGreatRfE8
import Derived.Test.YtidkjfaeolfcaaaGreatRfN1
import Derived.Test.YtidkjfaeolfcaaaGreatRfPan
/- Own work: the document's making of sets. -/
set_option linter.unusedVariables false
set_option linter.unusedSimpArgs false
namespace Go.Rf
open Go.RowKit
theorem Fz.aggL {g : Nat → Option Blk} {a b : List AV} (h : FzL g a b) : Fz g (.agg a) (.agg b) := .agg _ _ h.1 h.2
theorem Fz.tupL {g : Nat → Option Blk} {a b : List AV} (h : FzL g a b) : Fz g (.tup a) (.tup b) := .tup _ _ h.1 h.2
theorem fz_nil {g : Nat → Option Blk} : Fz g (.sl true []) (.sl false []) := .loose true [] (.sl _ _ (by simp))
end Go.Rf

