/-
  DERIVED. GIVEN WITH THE SEED: THE CARDS: each row of YtajombmjidnbcaaDoorRows.lean that lists a variable, with what it lists TIED to the program's text (the seventh form; the later family's looks); each row that meets fmt, with fmt's text TOLD by the authors' own Lean function (tested against real Go, not proved from fmt's source: count such statements apart). THE CARD IS WHAT COUNTS. Prove the row's statement (the work); the ties are given (YtajombmjidnbcaaDoorTie.lean); close each card by the builder's one call (the guide's Derived/Test/ToyasCard.lean, 'card_holds'). Laid BY PROGRAM, IN A SANDBOX (cutbox-door.mjs). By AI agents, Wed Nov 11 2026. No macro, syntax, notation, axiom, sorry.
-/
import Derived.Test.YtajombmjidnbcaaDoorRows
import GoSem.ClaimSeven
namespace Go.Proofs.YtajombmjidnbcaaDoor
namespace Rows

/-- THE TIED CARD OF 'caesuralaw17.LeastMakes'. -/
def leastMakesCard : Claim7 := { stood := { row := leastMakesRow, standIns := [], harness := (true, "ae66535208fa19ffdd18fac6c6788e4672e48aa895e2d776df91a5a39125b4ce"), looks := false }, kinds := [], alts := [], laidByText := true, laidKinds := [.data, .data, .data], laidTests := true, laidLooks := .later }
def LeastMakesCardSaid : Prop := Claim7.holds Tryd.pinned (.plain (OpenSpec.ofChange leastMakesSpec)) leastMakesCard

/-- THE TIED CARD OF 'caesuralaw17.LeastFewest'. -/
def leastFewestCard : Claim7 := { stood := { row := leastFewestRow, standIns := [], harness := (true, "ae66535208fa19ffdd18fac6c6788e4672e48aa895e2d776df91a5a39125b4ce"), looks := false }, kinds := [], alts := [], laidByText := true, laidKinds := [.data, .data, .data], laidTests := true, laidLooks := .later }
def LeastFewestCardSaid : Prop := Claim7.holds Tryd.pinned (.plain (OpenSpec.ofChange leastFewestSpec)) leastFewestCard

/-- THE TIED CARD OF 'caesuralaw17.LeastAlone'. -/
def leastAloneCard : Claim7 := { stood := { row := leastAloneRow, standIns := [], harness := (true, "ae66535208fa19ffdd18fac6c6788e4672e48aa895e2d776df91a5a39125b4ce"), looks := false }, kinds := [], alts := [], laidByText := true, laidKinds := [.data, .data, .data], laidTests := true, laidLooks := .later }
def LeastAloneCardSaid : Prop := Claim7.holds Tryd.pinned (.plain (OpenSpec.ofChange leastAloneSpec)) leastAloneCard

/-- THE TIED CARD OF 'caesuralaw17.LeastClasses'. -/
def leastClassesCard : Claim7 := { stood := { row := leastClassesRow, standIns := [], harness := (true, "ae66535208fa19ffdd18fac6c6788e4672e48aa895e2d776df91a5a39125b4ce"), looks := false }, kinds := [], alts := [], laidByText := true, laidKinds := [.data, .data, .data], laidTests := true, laidLooks := .later }
def LeastClassesCardSaid : Prop := Claim7.holds Tryd.pinned (.plain (OpenSpec.ofChange leastClassesSpec)) leastClassesCard

/-- THE TIED CARD OF 'caesuralaw17.LeastMade'. -/
def leastMadeCard : Claim7 := { stood := { row := leastMadeRow, standIns := [], harness := (true, "ae66535208fa19ffdd18fac6c6788e4672e48aa895e2d776df91a5a39125b4ce"), looks := false }, kinds := [], alts := [], laidByText := true, laidKinds := [.data, .data, .data], laidTests := true, laidLooks := .later }
def LeastMadeCardSaid : Prop := Claim7.holds Tryd.pinned (.plain (OpenSpec.ofChange leastMadeSpec)) leastMadeCard

/-- THE SECOND FORM's CARD OF 'caesuralaw17.LeastMakes'. -/
def leastMakesUptoCard : Claim7 := { stood := { row := leastMakesUptoRow, standIns := [], harness := (true, "ae66535208fa19ffdd18fac6c6788e4672e48aa895e2d776df91a5a39125b4ce"), looks := false }, kinds := [], alts := [], laidByText := true, laidKinds := [.data, .data, .data], laidTests := true, laidLooks := .later }
def LeastMakesUptoCardSaid : Prop := Claim7.holds Tryd.pinned (.plain (OpenSpec.upto leastMakesSpec)) leastMakesUptoCard

/-- THE SECOND FORM's CARD OF 'caesuralaw17.LeastFewest'. -/
def leastFewestUptoCard : Claim7 := { stood := { row := leastFewestUptoRow, standIns := [], harness := (true, "ae66535208fa19ffdd18fac6c6788e4672e48aa895e2d776df91a5a39125b4ce"), looks := false }, kinds := [], alts := [], laidByText := true, laidKinds := [.data, .data, .data], laidTests := true, laidLooks := .later }
def LeastFewestUptoCardSaid : Prop := Claim7.holds Tryd.pinned (.plain (OpenSpec.upto leastFewestSpec)) leastFewestUptoCard

/-- THE SECOND FORM's CARD OF 'caesuralaw17.LeastAlone'. -/
def leastAloneUptoCard : Claim7 := { stood := { row := leastAloneUptoRow, standIns := [], harness := (true, "ae66535208fa19ffdd18fac6c6788e4672e48aa895e2d776df91a5a39125b4ce"), looks := false }, kinds := [], alts := [], laidByText := true, laidKinds := [.data, .data, .data], laidTests := true, laidLooks := .later }
def LeastAloneUptoCardSaid : Prop := Claim7.holds Tryd.pinned (.plain (OpenSpec.upto leastAloneSpec)) leastAloneUptoCard

/-- THE SECOND FORM's CARD OF 'caesuralaw17.LeastClasses'. -/
def leastClassesUptoCard : Claim7 := { stood := { row := leastClassesUptoRow, standIns := [], harness := (true, "ae66535208fa19ffdd18fac6c6788e4672e48aa895e2d776df91a5a39125b4ce"), looks := false }, kinds := [], alts := [], laidByText := true, laidKinds := [.data, .data, .data], laidTests := true, laidLooks := .later }
def LeastClassesUptoCardSaid : Prop := Claim7.holds Tryd.pinned (.plain (OpenSpec.upto leastClassesSpec)) leastClassesUptoCard

/-- THE SECOND FORM's CARD OF 'caesuralaw17.LeastMade'. -/
def leastMadeUptoCard : Claim7 := { stood := { row := leastMadeUptoRow, standIns := [], harness := (true, "ae66535208fa19ffdd18fac6c6788e4672e48aa895e2d776df91a5a39125b4ce"), looks := false }, kinds := [], alts := [], laidByText := true, laidKinds := [.data, .data, .data], laidTests := true, laidLooks := .later }
def LeastMadeUptoCardSaid : Prop := Claim7.holds Tryd.pinned (.plain (OpenSpec.upto leastMadeSpec)) leastMadeUptoCard
end Rows
end Go.Proofs.YtajombmjidnbcaaDoor
