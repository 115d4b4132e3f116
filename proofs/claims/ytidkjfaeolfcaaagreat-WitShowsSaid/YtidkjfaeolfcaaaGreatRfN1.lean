import Derived.Test.YtidkjfaeolfcaaaGreatRfCell
import Derived.Test.YtidkjfaeolfcaaaGreatRfRun
import Derived.Sort.Row
import Derived.Sort.Grow
import Derived.Lib.SlicesCompact
import Derived.Test.YtidkjfaeolfcaaaGreatRfSetF
import Derived.Test.YtidkjfaeolfcaaaGreatRfB3
/- Own work: slices.Clone, of whatever elements: a list of the call's own. -/
set_option linter.unusedVariables false
set_option linter.unusedSimpArgs false
namespace Go.Rf
open Go.RowKit

/-- The same, but for the test on nil. -/
def c_cloneOv (es by_ : Nat) (z : AV) : AC :=
  (.seq (.reg none [
   ⟨(some 2), .mv (.c (.sl true [])), none, none⟩])
  (.seq (.reg none [
   ⟨(some 3), .mv (.t 0), none, none⟩,
   ⟨(some 4), .mv (.c (.v (.bool false))), none, none⟩])
  (.seq (.reg none [
   ⟨(some 5), .bslice es 0 z [], none, none⟩,
   ⟨(some 6), .mv (.t 0), none, none⟩,
   ⟨(some 7), .app es by_ (.t 5) (.t 6), none, none⟩,
   ⟨(some 2), .mv (.t 7), none, none⟩])
  .ret)))
end Go.Rf


/- Own work: the library's contracts of slices.Sort and slices.Compact, at the level of abstract values. -/
set_option linter.unusedVariables false
set_option linter.unusedSimpArgs false
namespace Go.Rf
open Go.RowKit Go.Sort

/-- The library's contracts of slices.Sort and slices.Compact, at []int. -/
def HSort (P : Program) (f : FuncId) : Prop := ∀ (S : St) (id off : Nat) (ys : List AV) (l : List Int) (K : AV → St → Prop), S.g id = some (.arr 1 ys) → ys.drop off = l.map encI → l ≠ [] → l.length ≤ 1000000 →
  K (.tup []) (S.set id (some (.arr 1 (ys.take off ++ (l.mergeSort fun x y => decide (x ≤ y)).map encI)))) → CallR P f [.own id off l.length] S K
def HComp (P : Program) (f : FuncId) : Prop := ∀ (S : St) (id off : Nat) (ys : List AV) (l : List Int) (K : AV → St → Prop), S.g id = some (.arr 1 ys) → ys.drop off = l.map encI → l ≠ [] → l.length ≤ 1000000 →
  K (.own id off (Lib.compact l).length) (S.set id (some (.arr 1 (ys.take off ++ (Lib.compact l).map encI)))) → CallR P f [.own id off l.length] S K
end Go.Rf


/- Own work: automata that may choose: what looks at them. -/
set_option linter.unusedVariables false
set_option linter.unusedSimpArgs false
namespace Go.Rf
open Go.RowKit

/-! ### numbers, rising, each once -/
structure HSet (P : Program) (fc fs fm : FuncId) : Prop where
  clone : ByC P fc (c_cloneOv 1 8 (.v (.int .i64 0))) [.t 2] 1
  sort : HSort P fs
  comp : HComp P fm
  sort0 : PureC P fs [.sl true []] (.tup [])
  comp0 : PureC P fm [.sl true []] (.sl true [])
end Go.Rf

