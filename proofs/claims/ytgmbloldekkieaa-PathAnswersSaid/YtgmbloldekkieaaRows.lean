/-
  No cell of these rows narrows 'for every input' (looked for: loops, veiled, ifaces, maps, wideKeys, modest, calm, conditions, laid).
  DERIVED. THE GIVEN ROWS OF THIS SEAT. 5 by the template 'for every input the law returns true; each argument reads behind the call as it read before'; 0 by the template 'total and deterministic' (their statements: YtgmbloldekkieaaTotals.lean).
  GIVEN WITH THE SEED: the statements are not yours to turn. If you find one false, say at which input.
  Laid BY PROGRAM, IN A SANDBOX (cutbox-rows.mjs): the forced cells as the released guide's own fill.sh prints them over the translation 78972b5d87ba45a9… (all of the seat's roots in one cut). By AI agents, Wed Nov 11 2026. No macro, syntax, notation, axiom, sorry.
-/
import Derived.Test.YtgmbloldekkieaaChecked
import GoSem.Claim
import GoSem.ClaimJoined
import GoSem.ClaimMapViews
import Derived.JoinedTies
import Derived.KernelRfl
namespace Go.Proofs.Ytgmbloldekkieaa
/- THE CELL 'sum', in the pinned program and in every row, IS THE sha256 OF THE DUMP (.gsa) THAT YtgmbloldekkieaaProg.lean LOADS. Nothing in Lean hashes anything: it is a label: what it is worth is what the hold of that sum in a sandbox is worth. -/
noncomputable def Try.pinned : Pinned := { name := "ytgmbloldekkieaa", sum := "78972b5d87ba45a9465e33b0097344cdc3d302d17f86cf5833aedb0a6de61130", checked := Try.checked }
namespace Rows
def none {H : Type} : Left H := { results := [], args := [] }

/-- 'caesuralaw18.PathAnswers': WHATEVER THE INPUT: true; the input reads as it did. -/
def pathAnswersSpec : ChangeSpec := { name := "pathAnswers", fn := fun _ => fun
  | [d1, d2, d3] => { results := [.lit (.bool true)], args := [d1, d2, d3] }
  | _ => none }
def pathAnswersRow : OpenClaim := { program := "ytgmbloldekkieaa", sum := "78972b5d87ba45a9465e33b0097344cdc3d302d17f86cf5833aedb0a6de61130", func := "caesura/caesuralaw18.PathAnswers", spec := "pathAnswers", unfollowed := true, recurses := true, apart := false }
def PathAnswersSaid : Prop := pathAnswersRow.holds Try.pinned (OpenSpec.ofChange pathAnswersSpec)

/-- ITS FALSE NEIGHBOUR: 'it returns false'. Refute it at one input. -/
def pathAnswersWrong : ChangeSpec := { name := "pathAnswers", fn := fun _ => fun
  | [d1, d2, d3] => { results := [.lit (.bool false)], args := [d1, d2, d3] }
  | _ => none }
def PathAnswersWrongFalsely : Prop := pathAnswersRow.holds Try.pinned (OpenSpec.ofChange pathAnswersWrong)

/-- 'caesuralaw18.PathFirst': WHATEVER THE INPUT: true; the input reads as it did. -/
def pathFirstSpec : ChangeSpec := { name := "pathFirst", fn := fun _ => fun
  | [d1, d2] => { results := [.lit (.bool true)], args := [d1, d2] }
  | _ => none }
def pathFirstRow : OpenClaim := { program := "ytgmbloldekkieaa", sum := "78972b5d87ba45a9465e33b0097344cdc3d302d17f86cf5833aedb0a6de61130", func := "caesura/caesuralaw18.PathFirst", spec := "pathFirst", unfollowed := true, recurses := true, apart := false }
def PathFirstSaid : Prop := pathFirstRow.holds Try.pinned (OpenSpec.ofChange pathFirstSpec)

/-- ITS FALSE NEIGHBOUR: 'it returns false'. Refute it at one input. -/
def pathFirstWrong : ChangeSpec := { name := "pathFirst", fn := fun _ => fun
  | [d1, d2] => { results := [.lit (.bool false)], args := [d1, d2] }
  | _ => none }
def PathFirstWrongFalsely : Prop := pathFirstRow.holds Try.pinned (OpenSpec.ofChange pathFirstWrong)

/-- 'caesuralaw18.PathMarked': WHATEVER THE INPUT: true; the input reads as it did. -/
def pathMarkedSpec : ChangeSpec := { name := "pathMarked", fn := fun _ => fun
  | [d1, d2, d3] => { results := [.lit (.bool true)], args := [d1, d2, d3] }
  | _ => none }
def pathMarkedRow : OpenClaim := { program := "ytgmbloldekkieaa", sum := "78972b5d87ba45a9465e33b0097344cdc3d302d17f86cf5833aedb0a6de61130", func := "caesura/caesuralaw18.PathMarked", spec := "pathMarked", unfollowed := true, recurses := true, apart := false }
def PathMarkedSaid : Prop := pathMarkedRow.holds Try.pinned (OpenSpec.ofChange pathMarkedSpec)

/-- ITS FALSE NEIGHBOUR: 'it returns false'. Refute it at one input. -/
def pathMarkedWrong : ChangeSpec := { name := "pathMarked", fn := fun _ => fun
  | [d1, d2, d3] => { results := [.lit (.bool false)], args := [d1, d2, d3] }
  | _ => none }
def PathMarkedWrongFalsely : Prop := pathMarkedRow.holds Try.pinned (OpenSpec.ofChange pathMarkedWrong)

/-- 'caesuralaw18.PathFar': WHATEVER THE INPUT: true; the input reads as it did. -/
def pathFarSpec : ChangeSpec := { name := "pathFar", fn := fun _ => fun
  | [d] => { results := [.lit (.bool true)], args := [d] }
  | _ => none }
def pathFarRow : OpenClaim := { program := "ytgmbloldekkieaa", sum := "78972b5d87ba45a9465e33b0097344cdc3d302d17f86cf5833aedb0a6de61130", func := "caesura/caesuralaw18.PathFar", spec := "pathFar", unfollowed := true, recurses := true, apart := false }
def PathFarSaid : Prop := pathFarRow.holds Try.pinned (OpenSpec.ofChange pathFarSpec)

/-- ITS FALSE NEIGHBOUR: 'it returns false'. Refute it at one input. -/
def pathFarWrong : ChangeSpec := { name := "pathFar", fn := fun _ => fun
  | [d] => { results := [.lit (.bool false)], args := [d] }
  | _ => none }
def PathFarWrongFalsely : Prop := pathFarRow.holds Try.pinned (OpenSpec.ofChange pathFarWrong)

/-- 'caesuralaw18.PathWrites': WHATEVER THE INPUT: true; the input reads as it did. -/
def pathWritesSpec : ChangeSpec := { name := "pathWrites", fn := fun _ => fun
  | [d1, d2, d3] => { results := [.lit (.bool true)], args := [d1, d2, d3] }
  | _ => none }
def pathWritesRow : OpenClaim := { program := "ytgmbloldekkieaa", sum := "78972b5d87ba45a9465e33b0097344cdc3d302d17f86cf5833aedb0a6de61130", func := "caesura/caesuralaw18.PathWrites", spec := "pathWrites", unfollowed := true, recurses := true, apart := false }
def PathWritesSaid : Prop := pathWritesRow.holds Try.pinned (OpenSpec.ofChange pathWritesSpec)

/-- ITS FALSE NEIGHBOUR: 'it returns false'. Refute it at one input. -/
def pathWritesWrong : ChangeSpec := { name := "pathWrites", fn := fun _ => fun
  | [d1, d2, d3] => { results := [.lit (.bool false)], args := [d1, d2, d3] }
  | _ => none }
def PathWritesWrongFalsely : Prop := pathWritesRow.holds Try.pinned (OpenSpec.ofChange pathWritesWrong)

/- THE SECOND FORM. 'bulk': how many values and letters a reading holds, each counted each time it is reached (what is shared counts as often as it is met; a slice's spare places count too). A statement '..UptoSaid' is the law's where the arguments, and the package variables that the reading takes, are together of bulk at most 1048576: NARROWER than '..Said'. Prove '..Said' where nothing that the law and all that it calls make is longer than what came in: it says more and counts as full. Else prove '..UptoSaid'. A law counts once. -/
mutual
def uptoBulk {H : Type} : DataW H → Nat
  | .lit (.string bytes) => bytes.length + 1
  | .lit _ => 1
  | .nil => 1
  | .ptr d => uptoBulk d + 1
  | .slice elems spare => uptoBulkAll elems + uptoBulkAll spare + 1
  | .agg parts => uptoBulkAll parts + 1
  | .iface _ d => uptoBulk d + 1
  | .map entries => uptoBulkEntries entries + 1
  | .held _ => 1
def uptoBulkAll {H : Type} : List (DataW H) → Nat
  | [] => 0
  | d :: r => uptoBulk d + uptoBulkAll r
def uptoBulkEntries {H : Type} : List (Lit × DataW H) → Nat
  | [] => 0
  | x :: r => uptoBulkEntry x + uptoBulkEntries r
def uptoBulkEntry {H : Type} : Lit × DataW H → Nat
  | (.string bytes, d) => bytes.length + uptoBulk d + 1
  | (_, d) => uptoBulk d + 1
 end
def uptoSmall : (H : Type) → List (DataW H) → Bool := fun _ ds => decide (uptoBulkAll ds ≤ 1048576)
def OpenSpec.upto (s : _root_.Go.ChangeSpec) : _root_.Go.OpenSpec := { _root_.Go.OpenSpec.ofChange s with cond := some uptoSmall }

/-- 'caesuralaw18.PathAnswers', WHERE WHAT IT READS IS OF BULK AT MOST 1048576: true; the input reads as it did. -/
def pathAnswersUptoRow : OpenClaim := { program := "ytgmbloldekkieaa", sum := "78972b5d87ba45a9465e33b0097344cdc3d302d17f86cf5833aedb0a6de61130", func := "caesura/caesuralaw18.PathAnswers", spec := "pathAnswers", unfollowed := true, recurses := true, apart := false, narrowed := true }
def PathAnswersUptoSaid : Prop := pathAnswersUptoRow.holds Try.pinned (OpenSpec.upto pathAnswersSpec)

/-- 'caesuralaw18.PathFirst', WHERE WHAT IT READS IS OF BULK AT MOST 1048576: true; the input reads as it did. -/
def pathFirstUptoRow : OpenClaim := { program := "ytgmbloldekkieaa", sum := "78972b5d87ba45a9465e33b0097344cdc3d302d17f86cf5833aedb0a6de61130", func := "caesura/caesuralaw18.PathFirst", spec := "pathFirst", unfollowed := true, recurses := true, apart := false, narrowed := true }
def PathFirstUptoSaid : Prop := pathFirstUptoRow.holds Try.pinned (OpenSpec.upto pathFirstSpec)

/-- 'caesuralaw18.PathMarked', WHERE WHAT IT READS IS OF BULK AT MOST 1048576: true; the input reads as it did. -/
def pathMarkedUptoRow : OpenClaim := { program := "ytgmbloldekkieaa", sum := "78972b5d87ba45a9465e33b0097344cdc3d302d17f86cf5833aedb0a6de61130", func := "caesura/caesuralaw18.PathMarked", spec := "pathMarked", unfollowed := true, recurses := true, apart := false, narrowed := true }
def PathMarkedUptoSaid : Prop := pathMarkedUptoRow.holds Try.pinned (OpenSpec.upto pathMarkedSpec)

/-- 'caesuralaw18.PathFar', WHERE WHAT IT READS IS OF BULK AT MOST 1048576: true; the input reads as it did. -/
def pathFarUptoRow : OpenClaim := { program := "ytgmbloldekkieaa", sum := "78972b5d87ba45a9465e33b0097344cdc3d302d17f86cf5833aedb0a6de61130", func := "caesura/caesuralaw18.PathFar", spec := "pathFar", unfollowed := true, recurses := true, apart := false, narrowed := true }
def PathFarUptoSaid : Prop := pathFarUptoRow.holds Try.pinned (OpenSpec.upto pathFarSpec)

/-- 'caesuralaw18.PathWrites', WHERE WHAT IT READS IS OF BULK AT MOST 1048576: true; the input reads as it did. -/
def pathWritesUptoRow : OpenClaim := { program := "ytgmbloldekkieaa", sum := "78972b5d87ba45a9465e33b0097344cdc3d302d17f86cf5833aedb0a6de61130", func := "caesura/caesuralaw18.PathWrites", spec := "pathWrites", unfollowed := true, recurses := true, apart := false, narrowed := true }
def PathWritesUptoSaid : Prop := pathWritesUptoRow.holds Try.pinned (OpenSpec.upto pathWritesSpec)

end Rows
end Go.Proofs.Ytgmbloldekkieaa
