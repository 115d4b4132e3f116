import Derived.Test.YtajombmjidnbcaaDoorRfNb
import Derived.Test.YtajombmjidnbcaaDoorRfE8
import Derived.Test.YtajombmjidnbcaaDoorRfF1
/- Own work: the document's making of sets. -/
set_option linter.unusedVariables false
set_option linter.unusedSimpArgs false
namespace Go.Rf
open Go.RowKit
theorem Fz.aggL {g : Nat → Option Blk} {a b : List AV} (h : FzL g a b) : Fz g (.agg a) (.agg b) := .agg _ _ h.1 h.2
theorem Fz.tupL {g : Nat → Option Blk} {a b : List AV} (h : FzL g a b) : Fz g (.tup a) (.tup b) := .tup _ _ h.1 h.2
theorem fz_nil {g : Nat → Option Blk} : Fz g (.sl true []) (.sl false []) := .loose true [] (.sl _ _ (by simp))
theorem fz_zDet (g : Nat → Option Blk) (e : Int) : Fz g (.tup [.agg [.v (.int .i64 0), .sl true [], .sl true []], .v (.int .i64 e)]) (encDE (⟨0, [], []⟩, e)) :=
  .tupL (.cons (.aggL (.cons (.closed _ (.v _)) (.cons fz_nil (.cons fz_nil .nil)))) (.cons (.closed _ (.v _)) .nil))
theorem idxOf_at {X : Type} [BEq X] [LawfulBEq X] {l : List X} {x : X} {j : Nat} (hj : j < l.length) (he : l[j] = x) (hn : x ∉ l.take j) : l.idxOf x = j := by
  have e : l = l.take j ++ (x :: l.drop (j + 1)) := by rw [← he, ← List.drop_eq_getElem_cons hj, List.take_append_drop]
  rw [e, List.idxOf_append, if_neg hn]
  simp; omega
end Go.Rf

