/-
  DERIVED. GIVEN WITH THE SEED: THE CARDS: each row of YtpinfihfbjkijaaDoorRows.lean that lists a variable, with what it lists TIED to the program's text (the seventh form; the later family's looks); each row that meets fmt, with fmt's text TOLD by the authors' own Lean function (tested against real Go, not proved from fmt's source: count such statements apart). THE CARD IS WHAT COUNTS. Prove the row's statement (the work); the ties are given (YtpinfihfbjkijaaDoorTie.lean); close each card by the builder's one call (the guide's Derived/Test/ToyasCard.lean, 'card_holds'). Laid BY PROGRAM, IN A SANDBOX (cutbox-door.mjs). By AI agents, Wed Nov 11 2026. No macro, syntax, notation, axiom, sorry.
-/
import Derived.Test.YtpinfihfbjkijaaDoorRows
import GoSem.ClaimSeven
namespace Go.Proofs.YtpinfihfbjkijaaDoor
namespace Rows

/-- THE TIED CARD OF 'caesuralaw15.DetMakes'. -/
def detMakesCard : Claim7 := { stood := { row := detMakesRow, standIns := [], harness := (true, "2b4b19bb67babe38748917aaafddf6b346a8e9c9196d556732f803335c0c48f8"), looks := true }, kinds := [], alts := [], laidByText := true, laidKinds := [.data, .data, .data], laidTests := true, laidLooks := .later }
def DetMakesCardSaid : Prop := Claim7.holds Tryd.pinned (.plain (OpenSpec.ofChange detMakesSpec)) detMakesCard

/-- THE TIED CARD OF 'caesuralaw15.DetAnswers'. -/
def detAnswersCard : Claim7 := { stood := { row := detAnswersRow, standIns := [], harness := (true, "2b4b19bb67babe38748917aaafddf6b346a8e9c9196d556732f803335c0c48f8"), looks := true }, kinds := [], alts := [], laidByText := true, laidKinds := [.data, .data, .data], laidTests := true, laidLooks := .later }
def DetAnswersCardSaid : Prop := Claim7.holds Tryd.pinned (.plain (OpenSpec.ofChange detAnswersSpec)) detAnswersCard

/-- THE TIED CARD OF 'caesuralaw15.DetNets'. -/
def detNetsCard : Claim7 := { stood := { row := detNetsRow, standIns := [], harness := (true, "2b4b19bb67babe38748917aaafddf6b346a8e9c9196d556732f803335c0c48f8"), looks := true }, kinds := [], alts := [], laidByText := true, laidKinds := [.data, .data, .data], laidTests := true, laidLooks := .later }
def DetNetsCardSaid : Prop := Claim7.holds Tryd.pinned (.plain (OpenSpec.ofChange detNetsSpec)) detNetsCard

/-- THE TIED CARD OF 'caesuralaw15.DetRuns'. -/
def detRunsCard : Claim7 := { stood := { row := detRunsRow, standIns := [], harness := (true, "2b4b19bb67babe38748917aaafddf6b346a8e9c9196d556732f803335c0c48f8"), looks := true }, kinds := [], alts := [], laidByText := true, laidKinds := [.data, .data, .data], laidTests := true, laidLooks := .later }
def DetRunsCardSaid : Prop := Claim7.holds Tryd.pinned (.plain (OpenSpec.ofChange detRunsSpec)) detRunsCard

/-- THE SECOND FORM's CARD OF 'caesuralaw15.DetMakes'. -/
def detMakesUptoCard : Claim7 := { stood := { row := detMakesUptoRow, standIns := [], harness := (true, "2b4b19bb67babe38748917aaafddf6b346a8e9c9196d556732f803335c0c48f8"), looks := true }, kinds := [], alts := [], laidByText := true, laidKinds := [.data, .data, .data], laidTests := true, laidLooks := .later }
def DetMakesUptoCardSaid : Prop := Claim7.holds Tryd.pinned (.plain (OpenSpec.upto detMakesSpec)) detMakesUptoCard

/-- THE SECOND FORM's CARD OF 'caesuralaw15.DetAnswers'. -/
def detAnswersUptoCard : Claim7 := { stood := { row := detAnswersUptoRow, standIns := [], harness := (true, "2b4b19bb67babe38748917aaafddf6b346a8e9c9196d556732f803335c0c48f8"), looks := true }, kinds := [], alts := [], laidByText := true, laidKinds := [.data, .data, .data], laidTests := true, laidLooks := .later }
def DetAnswersUptoCardSaid : Prop := Claim7.holds Tryd.pinned (.plain (OpenSpec.upto detAnswersSpec)) detAnswersUptoCard

/-- THE SECOND FORM's CARD OF 'caesuralaw15.DetNets'. -/
def detNetsUptoCard : Claim7 := { stood := { row := detNetsUptoRow, standIns := [], harness := (true, "2b4b19bb67babe38748917aaafddf6b346a8e9c9196d556732f803335c0c48f8"), looks := true }, kinds := [], alts := [], laidByText := true, laidKinds := [.data, .data, .data], laidTests := true, laidLooks := .later }
def DetNetsUptoCardSaid : Prop := Claim7.holds Tryd.pinned (.plain (OpenSpec.upto detNetsSpec)) detNetsUptoCard

/-- THE SECOND FORM's CARD OF 'caesuralaw15.DetRuns'. -/
def detRunsUptoCard : Claim7 := { stood := { row := detRunsUptoRow, standIns := [], harness := (true, "2b4b19bb67babe38748917aaafddf6b346a8e9c9196d556732f803335c0c48f8"), looks := true }, kinds := [], alts := [], laidByText := true, laidKinds := [.data, .data, .data], laidTests := true, laidLooks := .later }
def DetRunsUptoCardSaid : Prop := Claim7.holds Tryd.pinned (.plain (OpenSpec.upto detRunsSpec)) detRunsUptoCard
end Rows
end Go.Proofs.YtpinfihfbjkijaaDoor
