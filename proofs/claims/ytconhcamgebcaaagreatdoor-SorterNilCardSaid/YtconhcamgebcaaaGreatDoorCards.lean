/-
  DERIVED. GIVEN WITH THE SEED: THE CARDS: each row of YtconhcamgebcaaaGreatDoorRows.lean that lists a variable, with what it lists TIED to the program's text (the seventh form; the later family's looks); each row that meets fmt, with fmt's text TOLD by the authors' own Lean function (tested against real Go, not proved from fmt's source: count such statements apart). THE CARD IS WHAT COUNTS. Prove the row's statement (the work); the ties are given (YtconhcamgebcaaaGreatDoorTie.lean); close each card by the builder's one call (the guide's Derived/Test/ToyasCard.lean, 'card_holds'). Laid BY PROGRAM, IN A SANDBOX (cutbox-door.mjs). By AI agents, Wed Nov 11 2026. No macro, syntax, notation, axiom, sorry.
-/
import Derived.Test.YtconhcamgebcaaaGreatDoorRows
import GoSem.ClaimSeven
namespace Go.Proofs.YtconhcamgebcaaaGreatDoor
namespace Rows

/-- THE TIED CARD OF 'mahoutlaw17.EvalSums'. -/
def evalSumsCard : Claim7 := { stood := { row := evalSumsRow, standIns := [], harness := (true, "a5226baf04ff5cca002ad9e1a4066fa45d5566632670a058c70f57fc2549e18e"), looks := true }, kinds := [], alts := [], laidByText := true, laidKinds := [.data, .data, .data, .data, .sentinel, .sentinel, .data, .pinned], laidTests := true, laidLooks := .later }
def EvalSumsCardSaid : Prop := Claim7.holds Tryz.pinned (.plain (OpenSpec.ofChange evalSumsSpec)) evalSumsCard

/-- THE TIED CARD OF 'mahoutlaw17.EvalCuts'. -/
def evalCutsCard : Claim7 := { stood := { row := evalCutsRow, standIns := [], harness := (true, "a5226baf04ff5cca002ad9e1a4066fa45d5566632670a058c70f57fc2549e18e"), looks := true }, kinds := [], alts := [], laidByText := true, laidKinds := [.data, .data, .data, .data, .sentinel, .sentinel, .data, .pinned], laidTests := true, laidLooks := .later }
def EvalCutsCardSaid : Prop := Claim7.holds Tryz.pinned (.plain (OpenSpec.ofChange evalCutsSpec)) evalCutsCard

/-- THE TIED CARD OF 'mahoutlaw10.JournalNil'. -/
def journalNilCard : Claim7 := { stood := { row := journalNilRow, standIns := [], harness := (true, "a5226baf04ff5cca002ad9e1a4066fa45d5566632670a058c70f57fc2549e18e"), looks := true }, kinds := [], alts := [], laidByText := true, laidKinds := [.data, .data, .data, .data, .data, .sentinel, .sentinel, .pinned], laidTests := true, laidLooks := .later }
def JournalNilCardSaid : Prop := Claim7.holds Tryz.pinned (.plain (OpenSpec.ofChange journalNilSpec)) journalNilCard

/-- THE TIED CARD OF 'mahoutlaw20.SorterNil'. -/
def sorterNilCard : Claim7 := { stood := { row := sorterNilRow, standIns := [], harness := (true, "a5226baf04ff5cca002ad9e1a4066fa45d5566632670a058c70f57fc2549e18e"), looks := true }, kinds := [], alts := [], laidByText := true, laidKinds := [.data, .data, .data, .data, .data, .sentinel, .sentinel, .data, .pinned], laidTests := true, laidLooks := .later }
def SorterNilCardSaid : Prop := Claim7.holds Tryz.pinned (.plain (OpenSpec.ofChange sorterNilSpec)) sorterNilCard

/-- THE TIED CARD OF 'mahoutlaw14.StoreNil'. -/
def storeNilCard : Claim7 := { stood := { row := storeNilRow, standIns := [], harness := (true, "a5226baf04ff5cca002ad9e1a4066fa45d5566632670a058c70f57fc2549e18e"), looks := true }, kinds := [], alts := [], laidByText := true, laidKinds := [.data, .data, .data, .data, .data, .sentinel, .sentinel, .pinned], laidTests := true, laidLooks := .later }
def StoreNilCardSaid : Prop := Claim7.holds Tryz.pinned (.plain (OpenSpec.ofChange storeNilSpec)) storeNilCard

/-- THE TIED CARD OF 'mahoutlaw21.LocalNothing'. -/
def localNothingCard : Claim7 := { stood := { row := localNothingRow, standIns := [], harness := (true, "a5226baf04ff5cca002ad9e1a4066fa45d5566632670a058c70f57fc2549e18e"), looks := true }, kinds := [], alts := [], laidByText := true, laidKinds := [.data, .data, .data, .data, .data, .sentinel, .sentinel, .data, .pinned], laidTests := true, laidLooks := .later }
def LocalNothingCardSaid : Prop := Claim7.holds Tryz.pinned (.plain (OpenSpec.ofChange localNothingSpec)) localNothingCard

/-- THE TIED CARD OF 'mahoutlaw12.NamesNil'. -/
def namesNilCard : Claim7 := { stood := { row := namesNilRow, standIns := [], harness := (true, "a5226baf04ff5cca002ad9e1a4066fa45d5566632670a058c70f57fc2549e18e"), looks := true }, kinds := [], alts := [], laidByText := true, laidKinds := [.data, .data, .data, .data, .data, .sentinel, .sentinel, .data, .pinned], laidTests := true, laidLooks := .later }
def NamesNilCardSaid : Prop := Claim7.holds Tryz.pinned (.plain (OpenSpec.ofChange namesNilSpec)) namesNilCard

/-- THE SECOND FORM's CARD OF 'mahoutlaw17.EvalSums'. -/
def evalSumsUptoCard : Claim7 := { stood := { row := evalSumsUptoRow, standIns := [], harness := (true, "a5226baf04ff5cca002ad9e1a4066fa45d5566632670a058c70f57fc2549e18e"), looks := true }, kinds := [], alts := [], laidByText := true, laidKinds := [.data, .data, .data, .data, .sentinel, .sentinel, .data, .pinned], laidTests := true, laidLooks := .later }
def EvalSumsUptoCardSaid : Prop := Claim7.holds Tryz.pinned (.plain (OpenSpec.upto evalSumsSpec)) evalSumsUptoCard

/-- THE SECOND FORM's CARD OF 'mahoutlaw17.EvalCuts'. -/
def evalCutsUptoCard : Claim7 := { stood := { row := evalCutsUptoRow, standIns := [], harness := (true, "a5226baf04ff5cca002ad9e1a4066fa45d5566632670a058c70f57fc2549e18e"), looks := true }, kinds := [], alts := [], laidByText := true, laidKinds := [.data, .data, .data, .data, .sentinel, .sentinel, .data, .pinned], laidTests := true, laidLooks := .later }
def EvalCutsUptoCardSaid : Prop := Claim7.holds Tryz.pinned (.plain (OpenSpec.upto evalCutsSpec)) evalCutsUptoCard

/-- THE SECOND FORM's CARD OF 'mahoutlaw10.JournalNil'. -/
def journalNilUptoCard : Claim7 := { stood := { row := journalNilUptoRow, standIns := [], harness := (true, "a5226baf04ff5cca002ad9e1a4066fa45d5566632670a058c70f57fc2549e18e"), looks := true }, kinds := [], alts := [], laidByText := true, laidKinds := [.data, .data, .data, .data, .data, .sentinel, .sentinel, .pinned], laidTests := true, laidLooks := .later }
def JournalNilUptoCardSaid : Prop := Claim7.holds Tryz.pinned (.plain (OpenSpec.upto journalNilSpec)) journalNilUptoCard

/-- THE SECOND FORM's CARD OF 'mahoutlaw20.SorterNil'. -/
def sorterNilUptoCard : Claim7 := { stood := { row := sorterNilUptoRow, standIns := [], harness := (true, "a5226baf04ff5cca002ad9e1a4066fa45d5566632670a058c70f57fc2549e18e"), looks := true }, kinds := [], alts := [], laidByText := true, laidKinds := [.data, .data, .data, .data, .data, .sentinel, .sentinel, .data, .pinned], laidTests := true, laidLooks := .later }
def SorterNilUptoCardSaid : Prop := Claim7.holds Tryz.pinned (.plain (OpenSpec.upto sorterNilSpec)) sorterNilUptoCard

/-- THE SECOND FORM's CARD OF 'mahoutlaw14.StoreNil'. -/
def storeNilUptoCard : Claim7 := { stood := { row := storeNilUptoRow, standIns := [], harness := (true, "a5226baf04ff5cca002ad9e1a4066fa45d5566632670a058c70f57fc2549e18e"), looks := true }, kinds := [], alts := [], laidByText := true, laidKinds := [.data, .data, .data, .data, .data, .sentinel, .sentinel, .pinned], laidTests := true, laidLooks := .later }
def StoreNilUptoCardSaid : Prop := Claim7.holds Tryz.pinned (.plain (OpenSpec.upto storeNilSpec)) storeNilUptoCard

/-- THE SECOND FORM's CARD OF 'mahoutlaw21.LocalNothing'. -/
def localNothingUptoCard : Claim7 := { stood := { row := localNothingUptoRow, standIns := [], harness := (true, "a5226baf04ff5cca002ad9e1a4066fa45d5566632670a058c70f57fc2549e18e"), looks := true }, kinds := [], alts := [], laidByText := true, laidKinds := [.data, .data, .data, .data, .data, .sentinel, .sentinel, .data, .pinned], laidTests := true, laidLooks := .later }
def LocalNothingUptoCardSaid : Prop := Claim7.holds Tryz.pinned (.plain (OpenSpec.upto localNothingSpec)) localNothingUptoCard

/-- THE SECOND FORM's CARD OF 'mahoutlaw12.NamesNil'. -/
def namesNilUptoCard : Claim7 := { stood := { row := namesNilUptoRow, standIns := [], harness := (true, "a5226baf04ff5cca002ad9e1a4066fa45d5566632670a058c70f57fc2549e18e"), looks := true }, kinds := [], alts := [], laidByText := true, laidKinds := [.data, .data, .data, .data, .data, .sentinel, .sentinel, .data, .pinned], laidTests := true, laidLooks := .later }
def NamesNilUptoCardSaid : Prop := Claim7.holds Tryz.pinned (.plain (OpenSpec.upto namesNilSpec)) namesNilUptoCard
end Rows
end Go.Proofs.YtconhcamgebcaaaGreatDoor
