/-
  DERIVED. GIVEN WITH THE SEED: THE CARDS: each row of YtgdnfoijhdpppaaDoorRows.lean that lists a variable, with what it lists TIED to the program's text (the seventh form; the later family's looks); each row that meets fmt, with fmt's text TOLD by the authors' own Lean function (tested against real Go, not proved from fmt's source: count such statements apart). THE CARD IS WHAT COUNTS. Prove the row's statement (the work); the ties are given (YtgdnfoijhdpppaaDoorTie.lean); close each card by the builder's one call (the guide's Derived/Test/ToyasCard.lean, 'card_holds'). Laid BY PROGRAM, IN A SANDBOX (cutbox-door.mjs). By AI agents, Wed Nov 11 2026. No macro, syntax, notation, axiom, sorry.
-/
import Derived.Test.YtgdnfoijhdpppaaDoorRows
import GoSem.ClaimSeven
namespace Go.Proofs.YtgdnfoijhdpppaaDoor
namespace Rows

/-- THE TIED CARD OF 'mahoutlaw07.TreeQuotas'. -/
def treeQuotasCard : Claim7 := { stood := { row := treeQuotasRow, standIns := [], harness := (true, "93a82d814749fb8d4b8894d2c973f5209bd2aced44a41be33f447ff0623a6448"), looks := true }, kinds := [], alts := [], laidByText := true, laidKinds := [.data, .pinned], laidTests := true, laidLooks := .later }
def TreeQuotasCardSaid : Prop := Claim7.holds Tryd.pinned (.plain (OpenSpec.ofChange treeQuotasSpec)) treeQuotasCard

/-- THE TIED CARD OF 'mahoutlaw07.TreeHolders'. -/
def treeHoldersCard : Claim7 := { stood := { row := treeHoldersRow, standIns := [], harness := (true, "93a82d814749fb8d4b8894d2c973f5209bd2aced44a41be33f447ff0623a6448"), looks := true }, kinds := [], alts := [], laidByText := true, laidKinds := [.data, .pinned], laidTests := true, laidLooks := .later }
def TreeHoldersCardSaid : Prop := Claim7.holds Tryd.pinned (.plain (OpenSpec.ofChange treeHoldersSpec)) treeHoldersCard

/-- THE SECOND FORM's CARD OF 'mahoutlaw07.TreeQuotas'. -/
def treeQuotasUptoCard : Claim7 := { stood := { row := treeQuotasUptoRow, standIns := [], harness := (true, "93a82d814749fb8d4b8894d2c973f5209bd2aced44a41be33f447ff0623a6448"), looks := true }, kinds := [], alts := [], laidByText := true, laidKinds := [.data, .pinned], laidTests := true, laidLooks := .later }
def TreeQuotasUptoCardSaid : Prop := Claim7.holds Tryd.pinned (.plain (OpenSpec.upto treeQuotasSpec)) treeQuotasUptoCard

/-- THE SECOND FORM's CARD OF 'mahoutlaw07.TreeHolders'. -/
def treeHoldersUptoCard : Claim7 := { stood := { row := treeHoldersUptoRow, standIns := [], harness := (true, "93a82d814749fb8d4b8894d2c973f5209bd2aced44a41be33f447ff0623a6448"), looks := true }, kinds := [], alts := [], laidByText := true, laidKinds := [.data, .pinned], laidTests := true, laidLooks := .later }
def TreeHoldersUptoCardSaid : Prop := Claim7.holds Tryd.pinned (.plain (OpenSpec.upto treeHoldersSpec)) treeHoldersUptoCard
end Rows
end Go.Proofs.YtgdnfoijhdpppaaDoor
