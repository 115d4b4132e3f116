/-
  No cell of these rows narrows 'for every input' (looked for: loops, veiled, ifaces, maps, wideKeys, modest, calm, conditions, laid).
  DERIVED. THE GIVEN ROWS OF THIS SEAT. 4 by the template 'for every input the law returns true; each argument reads behind the call as it read before'; 0 by the template 'total and deterministic' (their statements: YtidkjfaeolfcaaaGreatTotals.lean).
  GIVEN WITH THE SEED: the statements are not yours to turn. If you find one false, say at which input.
  Laid BY PROGRAM, IN A SANDBOX (cutbox-rows.mjs): the forced cells as the released guide's own fill.sh prints them over the translation 8d2173ecc491f6da… (all of the seat's roots in one cut). By AI agents, Wed Nov 11 2026. No macro, syntax, notation, axiom, sorry.
-/
import Derived.Test.YtidkjfaeolfcaaaGreatChecked
import GoSem.Claim
import GoSem.ClaimJoined
import GoSem.ClaimMapViews
import Derived.JoinedTies
import Derived.KernelRfl
namespace Go.Proofs.YtidkjfaeolfcaaaGreat
/- THE CELL 'sum', in the pinned program and in every row, IS THE sha256 OF THE DUMP (.gsa) THAT YtidkjfaeolfcaaaGreatProg.lean LOADS. Nothing in Lean hashes anything: it is a label: what it is worth is what the hold of that sum in a sandbox is worth. -/
noncomputable def Tryz.pinned : Pinned := { name := "ytidkjfaeolfcaaagreat", sum := "8d2173ecc491f6dad42d92d5595c5ffed41493e3e9d5247c5aa67ef7a55185d2", checked := Tryz.checked }
namespace Rows
def none {H : Type} : Left H := { results := [], args := [] }

/-- 'caesuralaw23.WitAnswers': WHATEVER THE INPUT: true; the input reads as it did. -/
def witAnswersSpec : ChangeSpec := { name := "witAnswers", fn := fun _ => fun
  | [d1, d2, d3] => { results := [.lit (.bool true)], args := [d1, d2, d3] }
  | _ => none }
def witAnswersRow : OpenClaim := { program := "ytidkjfaeolfcaaagreat", sum := "8d2173ecc491f6dad42d92d5595c5ffed41493e3e9d5247c5aa67ef7a55185d2", func := "caesura/caesuralaw23.WitAnswers", spec := "witAnswers", unfollowed := true, recurses := true, apart := false }
def WitAnswersSaid : Prop := witAnswersRow.holds Tryz.pinned (OpenSpec.ofChange witAnswersSpec)

/-- ITS FALSE NEIGHBOUR: 'it returns false'. Refute it at one input. -/
def witAnswersWrong : ChangeSpec := { name := "witAnswers", fn := fun _ => fun
  | [d1, d2, d3] => { results := [.lit (.bool false)], args := [d1, d2, d3] }
  | _ => none }
def WitAnswersWrongFalsely : Prop := witAnswersRow.holds Tryz.pinned (OpenSpec.ofChange witAnswersWrong)

/-- 'caesuralaw23.WitFirst': WHATEVER THE INPUT: true; the input reads as it did. -/
def witFirstSpec : ChangeSpec := { name := "witFirst", fn := fun _ => fun
  | [d1, d2, d3] => { results := [.lit (.bool true)], args := [d1, d2, d3] }
  | _ => none }
def witFirstRow : OpenClaim := { program := "ytidkjfaeolfcaaagreat", sum := "8d2173ecc491f6dad42d92d5595c5ffed41493e3e9d5247c5aa67ef7a55185d2", func := "caesura/caesuralaw23.WitFirst", spec := "witFirst", unfollowed := true, recurses := true, apart := false }
def WitFirstSaid : Prop := witFirstRow.holds Tryz.pinned (OpenSpec.ofChange witFirstSpec)

/-- ITS FALSE NEIGHBOUR: 'it returns false'. Refute it at one input. -/
def witFirstWrong : ChangeSpec := { name := "witFirst", fn := fun _ => fun
  | [d1, d2, d3] => { results := [.lit (.bool false)], args := [d1, d2, d3] }
  | _ => none }
def WitFirstWrongFalsely : Prop := witFirstRow.holds Tryz.pinned (OpenSpec.ofChange witFirstWrong)

/-- 'caesuralaw23.WitOrder': WHATEVER THE INPUT: true; the input reads as it did. -/
def witOrderSpec : ChangeSpec := { name := "witOrder", fn := fun _ => fun
  | [d1, d2, d3] => { results := [.lit (.bool true)], args := [d1, d2, d3] }
  | _ => none }
def witOrderRow : OpenClaim := { program := "ytidkjfaeolfcaaagreat", sum := "8d2173ecc491f6dad42d92d5595c5ffed41493e3e9d5247c5aa67ef7a55185d2", func := "caesura/caesuralaw23.WitOrder", spec := "witOrder", unfollowed := true, recurses := true, apart := false }
def WitOrderSaid : Prop := witOrderRow.holds Tryz.pinned (OpenSpec.ofChange witOrderSpec)

/-- ITS FALSE NEIGHBOUR: 'it returns false'. Refute it at one input. -/
def witOrderWrong : ChangeSpec := { name := "witOrder", fn := fun _ => fun
  | [d1, d2, d3] => { results := [.lit (.bool false)], args := [d1, d2, d3] }
  | _ => none }
def WitOrderWrongFalsely : Prop := witOrderRow.holds Tryz.pinned (OpenSpec.ofChange witOrderWrong)

/-- 'caesuralaw23.WitShows': WHATEVER THE INPUT: true; the input reads as it did. -/
def witShowsSpec : ChangeSpec := { name := "witShows", fn := fun _ => fun
  | [d1, d2, d3] => { results := [.lit (.bool true)], args := [d1, d2, d3] }
  | _ => none }
def witShowsRow : OpenClaim := { program := "ytidkjfaeolfcaaagreat", sum := "8d2173ecc491f6dad42d92d5595c5ffed41493e3e9d5247c5aa67ef7a55185d2", func := "caesura/caesuralaw23.WitShows", spec := "witShows", unfollowed := true, recurses := true, apart := false }
def WitShowsSaid : Prop := witShowsRow.holds Tryz.pinned (OpenSpec.ofChange witShowsSpec)

/-- ITS FALSE NEIGHBOUR: 'it returns false'. Refute it at one input. -/
def witShowsWrong : ChangeSpec := { name := "witShows", fn := fun _ => fun
  | [d1, d2, d3] => { results := [.lit (.bool false)], args := [d1, d2, d3] }
  | _ => none }
def WitShowsWrongFalsely : Prop := witShowsRow.holds Tryz.pinned (OpenSpec.ofChange witShowsWrong)

/- THE SECOND FORM. 'bulk': how many values and letters a reading holds, each counted each time it is reached (what is shared counts as often as it is met; a slice's spare places count too). A statement '..UptoSaid' is the law's where the arguments, and the package variables that the reading takes, are together of bulk at most 1048576: NARROWER than '..Said'. Prove '..Said' where nothing that the law and all that it calls make is longer than what came in: it says more and counts as full. Else prove '..UptoSaid'. A law counts once. -/
mutual
def uptoBulk {H : Type} : DataW H → Nat
  | .lit (.string bytes) => bytes.length + 1
  | .lit _ => 1
  | .nil => 1
  | .ptr d => uptoBulk d + 1
  | .slice elems spare => uptoBulkAll elems + uptoBulkAll spare + 1
  | .agg parts => uptoBulkAll parts + 1
  | .iface _ d => uptoBulk d + 1
  | .map entries => uptoBulkEntries entries + 1
  | .held _ => 1
def uptoBulkAll {H : Type} : List (DataW H) → Nat
  | [] => 0
  | d :: r => uptoBulk d + uptoBulkAll r
def uptoBulkEntries {H : Type} : List (Lit × DataW H) → Nat
  | [] => 0
  | x :: r => uptoBulkEntry x + uptoBulkEntries r
def uptoBulkEntry {H : Type} : Lit × DataW H → Nat
  | (.string bytes, d) => bytes.length + uptoBulk d + 1
  | (_, d) => uptoBulk d + 1
 end
def uptoSmall : (H : Type) → List (DataW H) → Bool := fun _ ds => decide (uptoBulkAll ds ≤ 1048576)
def OpenSpec.upto (s : _root_.Go.ChangeSpec) : _root_.Go.OpenSpec := { _root_.Go.OpenSpec.ofChange s with cond := some uptoSmall }

/-- 'caesuralaw23.WitAnswers', WHERE WHAT IT READS IS OF BULK AT MOST 1048576: true; the input reads as it did. -/
def witAnswersUptoRow : OpenClaim := { program := "ytidkjfaeolfcaaagreat", sum := "8d2173ecc491f6dad42d92d5595c5ffed41493e3e9d5247c5aa67ef7a55185d2", func := "caesura/caesuralaw23.WitAnswers", spec := "witAnswers", unfollowed := true, recurses := true, apart := false, narrowed := true }
def WitAnswersUptoSaid : Prop := witAnswersUptoRow.holds Tryz.pinned (OpenSpec.upto witAnswersSpec)

/-- 'caesuralaw23.WitFirst', WHERE WHAT IT READS IS OF BULK AT MOST 1048576: true; the input reads as it did. -/
def witFirstUptoRow : OpenClaim := { program := "ytidkjfaeolfcaaagreat", sum := "8d2173ecc491f6dad42d92d5595c5ffed41493e3e9d5247c5aa67ef7a55185d2", func := "caesura/caesuralaw23.WitFirst", spec := "witFirst", unfollowed := true, recurses := true, apart := false, narrowed := true }
def WitFirstUptoSaid : Prop := witFirstUptoRow.holds Tryz.pinned (OpenSpec.upto witFirstSpec)

/-- 'caesuralaw23.WitOrder', WHERE WHAT IT READS IS OF BULK AT MOST 1048576: true; the input reads as it did. -/
def witOrderUptoRow : OpenClaim := { program := "ytidkjfaeolfcaaagreat", sum := "8d2173ecc491f6dad42d92d5595c5ffed41493e3e9d5247c5aa67ef7a55185d2", func := "caesura/caesuralaw23.WitOrder", spec := "witOrder", unfollowed := true, recurses := true, apart := false, narrowed := true }
def WitOrderUptoSaid : Prop := witOrderUptoRow.holds Tryz.pinned (OpenSpec.upto witOrderSpec)

/-- 'caesuralaw23.WitShows', WHERE WHAT IT READS IS OF BULK AT MOST 1048576: true; the input reads as it did. -/
def witShowsUptoRow : OpenClaim := { program := "ytidkjfaeolfcaaagreat", sum := "8d2173ecc491f6dad42d92d5595c5ffed41493e3e9d5247c5aa67ef7a55185d2", func := "caesura/caesuralaw23.WitShows", spec := "witShows", unfollowed := true, recurses := true, apart := false, narrowed := true }
def WitShowsUptoSaid : Prop := witShowsUptoRow.holds Tryz.pinned (OpenSpec.upto witShowsSpec)

end Rows
end Go.Proofs.YtidkjfaeolfcaaaGreat
