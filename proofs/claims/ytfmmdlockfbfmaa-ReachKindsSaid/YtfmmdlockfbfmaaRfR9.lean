import Derived.Test.YtfmmdlockfbfmaaRfR8
/- Own work: which rule decides. -/
set_option linter.unusedVariables false
set_option linter.unusedSimpArgs false
namespace Go.Rf
open Go.RowKit

/-- A book: names, rules, what is allowed, names used. -/
structure Bk where
  vars : AV
  rules : List Rul
  allows : AV
  used : AV
structure BkOk (x : Bk) : Prop where
  v : Closed x.vars
  a : Closed x.allows
  u : Closed x.used
  vc : x.vars.cells = [x.vars]
  ac : x.allows.cells = [x.allows]
  uc : x.used.cells = [x.used]
def encBk (x : Bk) : AV := .agg [x.vars, .sl false (x.rules.map encRul), x.allows, x.used]
end Go.Rf

