/-
  DERIVED. GIVEN WITH THE SEED: THE CARDS: each row of YtdmcjhnbmgmgoaaGreatDoorRows.lean that lists a variable, with what it lists TIED to the program's text (the seventh form; the later family's looks); each row that meets fmt, with fmt's text TOLD by the authors' own Lean function (tested against real Go, not proved from fmt's source: count such statements apart). THE CARD IS WHAT COUNTS. Prove the row's statement (the work); the ties are given (YtdmcjhnbmgmgoaaGreatDoorTie.lean); close each card by the builder's one call (the guide's Derived/Test/ToyasCard.lean, 'card_holds'). Laid BY PROGRAM, IN A SANDBOX (cutbox-door.mjs). By AI agents, Wed Nov 11 2026. No macro, syntax, notation, axiom, sorry.
-/
import Derived.Test.YtdmcjhnbmgmgoaaGreatDoorRows
import GoSem.ClaimSeven
namespace Go.Proofs.YtdmcjhnbmgmgoaaGreatDoor
namespace Rows

/-- THE TIED CARD OF 'caesuralaw20.MatchMakes'. -/
def matchMakesCard : Claim7 := { stood := { row := matchMakesRow, standIns := [], harness := (true, "71b95219783978807a5e312949c1857bb101b606efcdcbb5cb281e078c2e1b57"), looks := true }, kinds := [], alts := [], laidByText := true, laidKinds := [.data, .data, .data], laidTests := true, laidLooks := .later }
def MatchMakesCardSaid : Prop := Claim7.holds Tryz.pinned (.plain (OpenSpec.ofChange matchMakesSpec)) matchMakesCard

/-- THE TIED CARD OF 'caesuralaw20.MatchAnswers'. -/
def matchAnswersCard : Claim7 := { stood := { row := matchAnswersRow, standIns := [], harness := (true, "71b95219783978807a5e312949c1857bb101b606efcdcbb5cb281e078c2e1b57"), looks := true }, kinds := [], alts := [], laidByText := true, laidKinds := [.data, .data, .data], laidTests := true, laidLooks := .later }
def MatchAnswersCardSaid : Prop := Claim7.holds Tryz.pinned (.plain (OpenSpec.ofChange matchAnswersSpec)) matchAnswersCard

/-- THE TIED CARD OF 'caesuralaw20.MatchWhere'. -/
def matchWhereCard : Claim7 := { stood := { row := matchWhereRow, standIns := [], harness := (true, "71b95219783978807a5e312949c1857bb101b606efcdcbb5cb281e078c2e1b57"), looks := true }, kinds := [], alts := [], laidByText := true, laidKinds := [.data, .data, .data], laidTests := true, laidLooks := .later }
def MatchWhereCardSaid : Prop := Claim7.holds Tryz.pinned (.plain (OpenSpec.ofChange matchWhereSpec)) matchWhereCard

/-- THE TIED CARD OF 'caesuralaw20.MatchPlaces'. -/
def matchPlacesCard : Claim7 := { stood := { row := matchPlacesRow, standIns := [], harness := (true, "71b95219783978807a5e312949c1857bb101b606efcdcbb5cb281e078c2e1b57"), looks := true }, kinds := [], alts := [], laidByText := true, laidKinds := [.data, .data, .data], laidTests := true, laidLooks := .later }
def MatchPlacesCardSaid : Prop := Claim7.holds Tryz.pinned (.plain (OpenSpec.ofChange matchPlacesSpec)) matchPlacesCard

/-- THE TIED CARD OF 'caesuralaw20.MatchEmpty'. -/
def matchEmptyCard : Claim7 := { stood := { row := matchEmptyRow, standIns := [], harness := (true, "71b95219783978807a5e312949c1857bb101b606efcdcbb5cb281e078c2e1b57"), looks := true }, kinds := [], alts := [], laidByText := true, laidKinds := [.data, .data, .data], laidTests := true, laidLooks := .later }
def MatchEmptyCardSaid : Prop := Claim7.holds Tryz.pinned (.plain (OpenSpec.ofChange matchEmptySpec)) matchEmptyCard

/-- THE SECOND FORM's CARD OF 'caesuralaw20.MatchMakes'. -/
def matchMakesUptoCard : Claim7 := { stood := { row := matchMakesUptoRow, standIns := [], harness := (true, "71b95219783978807a5e312949c1857bb101b606efcdcbb5cb281e078c2e1b57"), looks := true }, kinds := [], alts := [], laidByText := true, laidKinds := [.data, .data, .data], laidTests := true, laidLooks := .later }
def MatchMakesUptoCardSaid : Prop := Claim7.holds Tryz.pinned (.plain (OpenSpec.upto matchMakesSpec)) matchMakesUptoCard

/-- THE SECOND FORM's CARD OF 'caesuralaw20.MatchAnswers'. -/
def matchAnswersUptoCard : Claim7 := { stood := { row := matchAnswersUptoRow, standIns := [], harness := (true, "71b95219783978807a5e312949c1857bb101b606efcdcbb5cb281e078c2e1b57"), looks := true }, kinds := [], alts := [], laidByText := true, laidKinds := [.data, .data, .data], laidTests := true, laidLooks := .later }
def MatchAnswersUptoCardSaid : Prop := Claim7.holds Tryz.pinned (.plain (OpenSpec.upto matchAnswersSpec)) matchAnswersUptoCard

/-- THE SECOND FORM's CARD OF 'caesuralaw20.MatchWhere'. -/
def matchWhereUptoCard : Claim7 := { stood := { row := matchWhereUptoRow, standIns := [], harness := (true, "71b95219783978807a5e312949c1857bb101b606efcdcbb5cb281e078c2e1b57"), looks := true }, kinds := [], alts := [], laidByText := true, laidKinds := [.data, .data, .data], laidTests := true, laidLooks := .later }
def MatchWhereUptoCardSaid : Prop := Claim7.holds Tryz.pinned (.plain (OpenSpec.upto matchWhereSpec)) matchWhereUptoCard

/-- THE SECOND FORM's CARD OF 'caesuralaw20.MatchPlaces'. -/
def matchPlacesUptoCard : Claim7 := { stood := { row := matchPlacesUptoRow, standIns := [], harness := (true, "71b95219783978807a5e312949c1857bb101b606efcdcbb5cb281e078c2e1b57"), looks := true }, kinds := [], alts := [], laidByText := true, laidKinds := [.data, .data, .data], laidTests := true, laidLooks := .later }
def MatchPlacesUptoCardSaid : Prop := Claim7.holds Tryz.pinned (.plain (OpenSpec.upto matchPlacesSpec)) matchPlacesUptoCard

/-- THE SECOND FORM's CARD OF 'caesuralaw20.MatchEmpty'. -/
def matchEmptyUptoCard : Claim7 := { stood := { row := matchEmptyUptoRow, standIns := [], harness := (true, "71b95219783978807a5e312949c1857bb101b606efcdcbb5cb281e078c2e1b57"), looks := true }, kinds := [], alts := [], laidByText := true, laidKinds := [.data, .data, .data], laidTests := true, laidLooks := .later }
def MatchEmptyUptoCardSaid : Prop := Claim7.holds Tryz.pinned (.plain (OpenSpec.upto matchEmptySpec)) matchEmptyUptoCard
end Rows
end Go.Proofs.YtdmcjhnbmgmgoaaGreatDoor
