/-
  NARROWER THAN 'FOR EVERY INPUT', by the rows' own cells (each row's printed sentence says how): BackForms: loops.
  DERIVED. THE GIVEN ROWS OF THIS SEAT. 4 by the template 'for every input the law returns true; each argument reads behind the call as it read before'; 0 by the template 'total and deterministic' (their statements: YtgehkmifnjldfaaTotals.lean).
  GIVEN WITH THE SEED: the statements are not yours to turn. If you find one false, say at which input.
  Laid BY PROGRAM, IN A SANDBOX (cutbox-rows.mjs): the forced cells as the released guide's own fill.sh prints them over the translation 7ebce0a0c0a3666d… (all of the seat's roots in one cut). By AI agents, Wed Nov 11 2026. No macro, syntax, notation, axiom, sorry.
-/
import Derived.Test.YtgehkmifnjldfaaChecked
import GoSem.Claim
import GoSem.ClaimJoined
import GoSem.ClaimMapViews
import Derived.JoinedTies
import Derived.KernelRfl
namespace Go.Proofs.Ytgehkmifnjldfaa
/- THE CELL 'sum', in the pinned program and in every row, IS THE sha256 OF THE DUMP (.gsa) THAT YtgehkmifnjldfaaProg.lean LOADS. Nothing in Lean hashes anything: it is a label: what it is worth is what the hold of that sum in a sandbox is worth. -/
noncomputable def Try.pinned : Pinned := { name := "ytgehkmifnjldfaa", sum := "7ebce0a0c0a3666d07ad198b2ba89f6410a01df430fc61ac9429402cda51c137", checked := Try.checked }
namespace Rows
def none {H : Type} : Left H := { results := [], args := [] }

/-- 'caesuralaw14.BackAnswers': WHATEVER THE INPUT: true; the input reads as it did. -/
def backAnswersSpec : ChangeSpec := { name := "backAnswers", fn := fun _ => fun
  | [d1, d2] => { results := [.lit (.bool true)], args := [d1, d2] }
  | _ => none }
def backAnswersRow : OpenClaim := { program := "ytgehkmifnjldfaa", sum := "7ebce0a0c0a3666d07ad198b2ba89f6410a01df430fc61ac9429402cda51c137", func := "caesura/caesuralaw14.BackAnswers", spec := "backAnswers", unfollowed := true, recurses := true, apart := false }
def BackAnswersSaid : Prop := backAnswersRow.holds Try.pinned (OpenSpec.ofChange backAnswersSpec)

/-- ITS FALSE NEIGHBOUR: 'it returns false'. Refute it at one input. -/
def backAnswersWrong : ChangeSpec := { name := "backAnswers", fn := fun _ => fun
  | [d1, d2] => { results := [.lit (.bool false)], args := [d1, d2] }
  | _ => none }
def BackAnswersWrongFalsely : Prop := backAnswersRow.holds Try.pinned (OpenSpec.ofChange backAnswersWrong)

/-- 'caesuralaw14.BackTurns': WHATEVER THE INPUT: true; the input reads as it did. -/
def backTurnsSpec : ChangeSpec := { name := "backTurns", fn := fun _ => fun
  | [d1, d2] => { results := [.lit (.bool true)], args := [d1, d2] }
  | _ => none }
def backTurnsRow : OpenClaim := { program := "ytgehkmifnjldfaa", sum := "7ebce0a0c0a3666d07ad198b2ba89f6410a01df430fc61ac9429402cda51c137", func := "caesura/caesuralaw14.BackTurns", spec := "backTurns", unfollowed := true, recurses := true, apart := false }
def BackTurnsSaid : Prop := backTurnsRow.holds Try.pinned (OpenSpec.ofChange backTurnsSpec)

/-- ITS FALSE NEIGHBOUR: 'it returns false'. Refute it at one input. -/
def backTurnsWrong : ChangeSpec := { name := "backTurns", fn := fun _ => fun
  | [d1, d2] => { results := [.lit (.bool false)], args := [d1, d2] }
  | _ => none }
def BackTurnsWrongFalsely : Prop := backTurnsRow.holds Try.pinned (OpenSpec.ofChange backTurnsWrong)

/-- 'caesuralaw14.BackForms': WHATEVER THE INPUT: true; the input reads as it did. -/
def backFormsSpec : ChangeSpec := { name := "backForms", fn := fun _ => fun
  | [d1, d2] => { results := [.lit (.bool true)], args := [d1, d2] }
  | _ => none }
def backFormsRow : OpenClaim := { program := "ytgehkmifnjldfaa", sum := "7ebce0a0c0a3666d07ad198b2ba89f6410a01df430fc61ac9429402cda51c137", func := "caesura/caesuralaw14.BackForms", spec := "backForms", unfollowed := true, recurses := true, loops := true, apart := false }
def BackFormsSaid : Prop := backFormsRow.holds Try.pinned (OpenSpec.ofChange backFormsSpec)

/-- ITS FALSE NEIGHBOUR: 'it returns false'. Refute it at one input. -/
def backFormsWrong : ChangeSpec := { name := "backForms", fn := fun _ => fun
  | [d1, d2] => { results := [.lit (.bool false)], args := [d1, d2] }
  | _ => none }
def BackFormsWrongFalsely : Prop := backFormsRow.holds Try.pinned (OpenSpec.ofChange backFormsWrong)

/-- 'caesuralaw14.BackHeads': WHATEVER THE INPUT: true; the input reads as it did. -/
def backHeadsSpec : ChangeSpec := { name := "backHeads", fn := fun _ => fun
  | [d1, d2, d3] => { results := [.lit (.bool true)], args := [d1, d2, d3] }
  | _ => none }
def backHeadsRow : OpenClaim := { program := "ytgehkmifnjldfaa", sum := "7ebce0a0c0a3666d07ad198b2ba89f6410a01df430fc61ac9429402cda51c137", func := "caesura/caesuralaw14.BackHeads", spec := "backHeads", unfollowed := true, recurses := true, apart := false }
def BackHeadsSaid : Prop := backHeadsRow.holds Try.pinned (OpenSpec.ofChange backHeadsSpec)

/-- ITS FALSE NEIGHBOUR: 'it returns false'. Refute it at one input. -/
def backHeadsWrong : ChangeSpec := { name := "backHeads", fn := fun _ => fun
  | [d1, d2, d3] => { results := [.lit (.bool false)], args := [d1, d2, d3] }
  | _ => none }
def BackHeadsWrongFalsely : Prop := backHeadsRow.holds Try.pinned (OpenSpec.ofChange backHeadsWrong)

/- THE SECOND FORM. 'bulk': how many values and letters a reading holds, each counted each time it is reached (what is shared counts as often as it is met; a slice's spare places count too). A statement '..UptoSaid' is the law's where the arguments, and the package variables that the reading takes, are together of bulk at most 1048576: NARROWER than '..Said'. Prove '..Said' where nothing that the law and all that it calls make is longer than what came in: it says more and counts as full. Else prove '..UptoSaid'. A law counts once. -/
mutual
def uptoBulk {H : Type} : DataW H → Nat
  | .lit (.string bytes) => bytes.length + 1
  | .lit _ => 1
  | .nil => 1
  | .ptr d => uptoBulk d + 1
  | .slice elems spare => uptoBulkAll elems + uptoBulkAll spare + 1
  | .agg parts => uptoBulkAll parts + 1
  | .iface _ d => uptoBulk d + 1
  | .map entries => uptoBulkEntries entries + 1
  | .held _ => 1
def uptoBulkAll {H : Type} : List (DataW H) → Nat
  | [] => 0
  | d :: r => uptoBulk d + uptoBulkAll r
def uptoBulkEntries {H : Type} : List (Lit × DataW H) → Nat
  | [] => 0
  | x :: r => uptoBulkEntry x + uptoBulkEntries r
def uptoBulkEntry {H : Type} : Lit × DataW H → Nat
  | (.string bytes, d) => bytes.length + uptoBulk d + 1
  | (_, d) => uptoBulk d + 1
 end
def uptoSmall : (H : Type) → List (DataW H) → Bool := fun _ ds => decide (uptoBulkAll ds ≤ 1048576)
def OpenSpec.upto (s : _root_.Go.ChangeSpec) : _root_.Go.OpenSpec := { _root_.Go.OpenSpec.ofChange s with cond := some uptoSmall }

/-- 'caesuralaw14.BackAnswers', WHERE WHAT IT READS IS OF BULK AT MOST 1048576: true; the input reads as it did. -/
def backAnswersUptoRow : OpenClaim := { program := "ytgehkmifnjldfaa", sum := "7ebce0a0c0a3666d07ad198b2ba89f6410a01df430fc61ac9429402cda51c137", func := "caesura/caesuralaw14.BackAnswers", spec := "backAnswers", unfollowed := true, recurses := true, apart := false, narrowed := true }
def BackAnswersUptoSaid : Prop := backAnswersUptoRow.holds Try.pinned (OpenSpec.upto backAnswersSpec)

/-- 'caesuralaw14.BackTurns', WHERE WHAT IT READS IS OF BULK AT MOST 1048576: true; the input reads as it did. -/
def backTurnsUptoRow : OpenClaim := { program := "ytgehkmifnjldfaa", sum := "7ebce0a0c0a3666d07ad198b2ba89f6410a01df430fc61ac9429402cda51c137", func := "caesura/caesuralaw14.BackTurns", spec := "backTurns", unfollowed := true, recurses := true, apart := false, narrowed := true }
def BackTurnsUptoSaid : Prop := backTurnsUptoRow.holds Try.pinned (OpenSpec.upto backTurnsSpec)

/-- 'caesuralaw14.BackForms', WHERE WHAT IT READS IS OF BULK AT MOST 1048576: true; the input reads as it did. -/
def backFormsUptoRow : OpenClaim := { program := "ytgehkmifnjldfaa", sum := "7ebce0a0c0a3666d07ad198b2ba89f6410a01df430fc61ac9429402cda51c137", func := "caesura/caesuralaw14.BackForms", spec := "backForms", unfollowed := true, recurses := true, loops := true, apart := false, narrowed := true }
def BackFormsUptoSaid : Prop := backFormsUptoRow.holds Try.pinned (OpenSpec.upto backFormsSpec)

/-- 'caesuralaw14.BackHeads', WHERE WHAT IT READS IS OF BULK AT MOST 1048576: true; the input reads as it did. -/
def backHeadsUptoRow : OpenClaim := { program := "ytgehkmifnjldfaa", sum := "7ebce0a0c0a3666d07ad198b2ba89f6410a01df430fc61ac9429402cda51c137", func := "caesura/caesuralaw14.BackHeads", spec := "backHeads", unfollowed := true, recurses := true, apart := false, narrowed := true }
def BackHeadsUptoSaid : Prop := backHeadsUptoRow.holds Try.pinned (OpenSpec.upto backHeadsSpec)

end Rows
end Go.Proofs.Ytgehkmifnjldfaa
