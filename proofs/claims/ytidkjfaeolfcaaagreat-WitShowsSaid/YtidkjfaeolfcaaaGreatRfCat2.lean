import Derived.Recover
import Derived.Test.YtidkjfaeolfcaaaGreatRfWk
/- Own work: a function that lays cells, looks whether to go on, defers a closure that recovers, and goes on. -/
set_option linter.unusedVariables false
set_option linter.unusedSimpArgs false
namespace Go.Rf
open Go.RowKit

structure M1 where
  a0 : AC
  ag : AC
  d : Nat
  g : FuncId
  x : Nat
  y : Nat
  ar : AC
  nt : Nat
  rs : List RV
end Go.Rf

