/-
  DERIVED. GIVEN WITH THE SEED: THE CARDS: each row of YthllnfdbhfkflaaDoorRows.lean that lists a variable, with what it lists TIED to the program's text (the seventh form; the later family's looks); each row that meets fmt, with fmt's text TOLD by the authors' own Lean function (tested against real Go, not proved from fmt's source: count such statements apart). THE CARD IS WHAT COUNTS. Prove the row's statement (the work); the ties are given (YthllnfdbhfkflaaDoorTie.lean); close each card by the builder's one call (the guide's Derived/Test/ToyasCard.lean, 'card_holds'). Laid BY PROGRAM, IN A SANDBOX (cutbox-door.mjs). By AI agents, Wed Nov 11 2026. No macro, syntax, notation, axiom, sorry.
-/
import Derived.Test.YthllnfdbhfkflaaDoorRows
import GoSem.ClaimSeven
namespace Go.Proofs.YthllnfdbhfkflaaDoor
namespace Rows

/-- THE TIED CARD OF 'mahoutlaw06.PathsWithin'. -/
def pathsWithinCard : Claim7 := { stood := { row := pathsWithinRow, standIns := [], harness := (true, "8066a43e459f790643ad241031e0b2326cbc50ace926e28e33df9ce1c78bd28e"), looks := false }, kinds := [], alts := [], laidByText := true, laidKinds := [.data, .pinned], laidTests := true, laidLooks := .later }
def PathsWithinCardSaid : Prop := Claim7.holds Tryd.pinned (.plain (OpenSpec.ofChange pathsWithinSpec)) pathsWithinCard

/-- THE TIED CARD OF 'mahoutlaw06.PathsSplits'. -/
def pathsSplitsCard : Claim7 := { stood := { row := pathsSplitsRow, standIns := [], harness := (true, "8066a43e459f790643ad241031e0b2326cbc50ace926e28e33df9ce1c78bd28e"), looks := false }, kinds := [], alts := [], laidByText := true, laidKinds := [.data, .pinned], laidTests := true, laidLooks := .later }
def PathsSplitsCardSaid : Prop := Claim7.holds Tryd.pinned (.plain (OpenSpec.ofChange pathsSplitsSpec)) pathsSplitsCard

/-- THE TIED CARD OF 'mahoutlaw06.PathsOrder'. -/
def pathsOrderCard : Claim7 := { stood := { row := pathsOrderRow, standIns := [], harness := (true, "8066a43e459f790643ad241031e0b2326cbc50ace926e28e33df9ce1c78bd28e"), looks := false }, kinds := [], alts := [], laidByText := true, laidKinds := [.data, .pinned], laidTests := true, laidLooks := .later }
def PathsOrderCardSaid : Prop := Claim7.holds Tryd.pinned (.plain (OpenSpec.ofChange pathsOrderSpec)) pathsOrderCard

/-- THE TIED CARD OF 'mahoutlaw06.PathsJoins'. -/
def pathsJoinsCard : Claim7 := { stood := { row := pathsJoinsRow, standIns := [], harness := (true, "8066a43e459f790643ad241031e0b2326cbc50ace926e28e33df9ce1c78bd28e"), looks := false }, kinds := [], alts := [], laidByText := true, laidKinds := [.data, .pinned], laidTests := true, laidLooks := .later }
def PathsJoinsCardSaid : Prop := Claim7.holds Tryd.pinned (.plain (OpenSpec.ofChange pathsJoinsSpec)) pathsJoinsCard

/-- THE TIED CARD OF 'mahoutlaw06.PathsUp'. -/
def pathsUpCard : Claim7 := { stood := { row := pathsUpRow, standIns := [], harness := (true, "8066a43e459f790643ad241031e0b2326cbc50ace926e28e33df9ce1c78bd28e"), looks := false }, kinds := [], alts := [], laidByText := true, laidKinds := [.data, .pinned], laidTests := true, laidLooks := .later }
def PathsUpCardSaid : Prop := Claim7.holds Tryd.pinned (.plain (OpenSpec.ofChange pathsUpSpec)) pathsUpCard

/-- THE SECOND FORM's CARD OF 'mahoutlaw06.PathsWithin'. -/
def pathsWithinUptoCard : Claim7 := { stood := { row := pathsWithinUptoRow, standIns := [], harness := (true, "8066a43e459f790643ad241031e0b2326cbc50ace926e28e33df9ce1c78bd28e"), looks := false }, kinds := [], alts := [], laidByText := true, laidKinds := [.data, .pinned], laidTests := true, laidLooks := .later }
def PathsWithinUptoCardSaid : Prop := Claim7.holds Tryd.pinned (.plain (OpenSpec.upto pathsWithinSpec)) pathsWithinUptoCard

/-- THE SECOND FORM's CARD OF 'mahoutlaw06.PathsSplits'. -/
def pathsSplitsUptoCard : Claim7 := { stood := { row := pathsSplitsUptoRow, standIns := [], harness := (true, "8066a43e459f790643ad241031e0b2326cbc50ace926e28e33df9ce1c78bd28e"), looks := false }, kinds := [], alts := [], laidByText := true, laidKinds := [.data, .pinned], laidTests := true, laidLooks := .later }
def PathsSplitsUptoCardSaid : Prop := Claim7.holds Tryd.pinned (.plain (OpenSpec.upto pathsSplitsSpec)) pathsSplitsUptoCard

/-- THE SECOND FORM's CARD OF 'mahoutlaw06.PathsOrder'. -/
def pathsOrderUptoCard : Claim7 := { stood := { row := pathsOrderUptoRow, standIns := [], harness := (true, "8066a43e459f790643ad241031e0b2326cbc50ace926e28e33df9ce1c78bd28e"), looks := false }, kinds := [], alts := [], laidByText := true, laidKinds := [.data, .pinned], laidTests := true, laidLooks := .later }
def PathsOrderUptoCardSaid : Prop := Claim7.holds Tryd.pinned (.plain (OpenSpec.upto pathsOrderSpec)) pathsOrderUptoCard

/-- THE SECOND FORM's CARD OF 'mahoutlaw06.PathsJoins'. -/
def pathsJoinsUptoCard : Claim7 := { stood := { row := pathsJoinsUptoRow, standIns := [], harness := (true, "8066a43e459f790643ad241031e0b2326cbc50ace926e28e33df9ce1c78bd28e"), looks := false }, kinds := [], alts := [], laidByText := true, laidKinds := [.data, .pinned], laidTests := true, laidLooks := .later }
def PathsJoinsUptoCardSaid : Prop := Claim7.holds Tryd.pinned (.plain (OpenSpec.upto pathsJoinsSpec)) pathsJoinsUptoCard

/-- THE SECOND FORM's CARD OF 'mahoutlaw06.PathsUp'. -/
def pathsUpUptoCard : Claim7 := { stood := { row := pathsUpUptoRow, standIns := [], harness := (true, "8066a43e459f790643ad241031e0b2326cbc50ace926e28e33df9ce1c78bd28e"), looks := false }, kinds := [], alts := [], laidByText := true, laidKinds := [.data, .pinned], laidTests := true, laidLooks := .later }
def PathsUpUptoCardSaid : Prop := Claim7.holds Tryd.pinned (.plain (OpenSpec.upto pathsUpSpec)) pathsUpUptoCard
end Rows
end Go.Proofs.YthllnfdbhfkflaaDoor
