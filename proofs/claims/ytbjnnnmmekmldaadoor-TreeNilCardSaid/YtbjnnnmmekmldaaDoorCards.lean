/-
  DERIVED. GIVEN WITH THE SEED: THE CARDS: each row of YtbjnnnmmekmldaaDoorRows.lean that lists a variable, with what it lists TIED to the program's text (the seventh form; the later family's looks); each row that meets fmt, with fmt's text TOLD by the authors' own Lean function (tested against real Go, not proved from fmt's source: count such statements apart). THE CARD IS WHAT COUNTS. Prove the row's statement (the work); the ties are given (YtbjnnnmmekmldaaDoorTie.lean); close each card by the builder's one call (the guide's Derived/Test/ToyasCard.lean, 'card_holds'). Laid BY PROGRAM, IN A SANDBOX (cutbox-door.mjs). By AI agents, Wed Nov 11 2026. No macro, syntax, notation, axiom, sorry.
-/
import Derived.Test.YtbjnnnmmekmldaaDoorRows
import GoSem.ClaimSeven
namespace Go.Proofs.YtbjnnnmmekmldaaDoor
namespace Rows

/-- THE TIED CARD OF 'mahoutlaw07.TreeQuotas'. -/
def treeQuotasCard : Claim7 := { stood := { row := treeQuotasRow, standIns := [], harness := (true, "3b946db8c1c238b290714362ebcbac2232ca34df58397f0a4bc2486765eb65c8"), looks := true }, kinds := [], alts := [], laidByText := true, laidKinds := [.data, .pinned], laidTests := true, laidLooks := .later }
def TreeQuotasCardSaid : Prop := Claim7.holds Tryd.pinned (.plain (OpenSpec.ofChange treeQuotasSpec)) treeQuotasCard

/-- THE TIED CARD OF 'mahoutlaw07.TreeHolders'. -/
def treeHoldersCard : Claim7 := { stood := { row := treeHoldersRow, standIns := [], harness := (true, "3b946db8c1c238b290714362ebcbac2232ca34df58397f0a4bc2486765eb65c8"), looks := true }, kinds := [], alts := [], laidByText := true, laidKinds := [.data, .pinned], laidTests := true, laidLooks := .later }
def TreeHoldersCardSaid : Prop := Claim7.holds Tryd.pinned (.plain (OpenSpec.ofChange treeHoldersSpec)) treeHoldersCard

/-- THE TIED CARD OF 'mahoutlaw07.TreeNil'. -/
def treeNilCard : Claim7 := { stood := { row := treeNilRow, standIns := [], harness := (true, "3b946db8c1c238b290714362ebcbac2232ca34df58397f0a4bc2486765eb65c8"), looks := true }, kinds := [], alts := [], laidByText := true, laidKinds := [.data, .pinned], laidTests := true, laidLooks := .later }
def TreeNilCardSaid : Prop := Claim7.holds Tryd.pinned (.plain (OpenSpec.ofChange treeNilSpec)) treeNilCard

/-- THE SECOND FORM's CARD OF 'mahoutlaw07.TreeQuotas'. -/
def treeQuotasUptoCard : Claim7 := { stood := { row := treeQuotasUptoRow, standIns := [], harness := (true, "3b946db8c1c238b290714362ebcbac2232ca34df58397f0a4bc2486765eb65c8"), looks := true }, kinds := [], alts := [], laidByText := true, laidKinds := [.data, .pinned], laidTests := true, laidLooks := .later }
def TreeQuotasUptoCardSaid : Prop := Claim7.holds Tryd.pinned (.plain (OpenSpec.upto treeQuotasSpec)) treeQuotasUptoCard

/-- THE SECOND FORM's CARD OF 'mahoutlaw07.TreeHolders'. -/
def treeHoldersUptoCard : Claim7 := { stood := { row := treeHoldersUptoRow, standIns := [], harness := (true, "3b946db8c1c238b290714362ebcbac2232ca34df58397f0a4bc2486765eb65c8"), looks := true }, kinds := [], alts := [], laidByText := true, laidKinds := [.data, .pinned], laidTests := true, laidLooks := .later }
def TreeHoldersUptoCardSaid : Prop := Claim7.holds Tryd.pinned (.plain (OpenSpec.upto treeHoldersSpec)) treeHoldersUptoCard

/-- THE SECOND FORM's CARD OF 'mahoutlaw07.TreeNil'. -/
def treeNilUptoCard : Claim7 := { stood := { row := treeNilUptoRow, standIns := [], harness := (true, "3b946db8c1c238b290714362ebcbac2232ca34df58397f0a4bc2486765eb65c8"), looks := true }, kinds := [], alts := [], laidByText := true, laidKinds := [.data, .pinned], laidTests := true, laidLooks := .later }
def TreeNilUptoCardSaid : Prop := Claim7.holds Tryd.pinned (.plain (OpenSpec.upto treeNilSpec)) treeNilUptoCard
end Rows
end Go.Proofs.YtbjnnnmmekmldaaDoor
