import Derived.Test.YtfmmdlockfbfmaaRfN1
/- Own work: automata that may choose: how great they are, whether they are right, whether they are the same. -/
set_option linter.unusedVariables false
set_option linter.unusedSimpArgs false
namespace Go.Rf
open Go.RowKit

structure Net where
  signs : Int
  by_ : List (List Int)
  follow : List (List Int)
  last : List Int
  deriving DecidableEq
def encNet (n : Net) : AV := .agg [encI n.signs, encIss n.by_, encIss n.follow, encIs n.last]
structure NetOk (n : Net) : Prop where
  by_ : Len n.by_
  follow : Len n.follow
  last : Len n.last
  byr : ∀ r ∈ n.by_, Len r
  followr : ∀ r ∈ n.follow, Len r
def rightN (n : Net) : Bool := decide (1 ≤ n.signs) && decide (n.signs ≤ 400) && decide (1 ≤ n.by_.length) && decide (n.by_.length ≤ 301) && decide (n.follow.length = n.by_.length) && decide ((n.by_.getD 0 []).length = 0) && risesB n.last 0 n.by_.length &&
  (List.range n.by_.length).all fun i => risesB (n.by_.getD i []) 0 n.signs && risesB (n.follow.getD i []) 1 n.by_.length
structure RightN (n : Net) : Prop where
  s1 : 1 ≤ n.signs
  s2 : n.signs ≤ 400
  n1 : 1 ≤ n.by_.length
  n2 : n.by_.length ≤ 301
  len : n.follow.length = n.by_.length
  by0 : n.by_.getD 0 [] = []
  last : RisesP n.last 0 n.by_.length
  by_ : ∀ i (h : i < n.by_.length), RisesP n.by_[i] 0 n.signs
  follow : ∀ i (h : i < n.follow.length), RisesP n.follow[i] 1 n.by_.length
def Net.rows (n : Net) : List (List Int) := n.last :: (n.by_ ++ n.follow)
end Go.Rf

