/-
  DERIVED. GIVEN WITH THE SEED: THE CARDS: each row of YtibigfkeaemanaaGreatDoorRows.lean that lists a variable, with what it lists TIED to the program's text (the seventh form; the later family's looks); each row that meets fmt, with fmt's text TOLD by the authors' own Lean function (tested against real Go, not proved from fmt's source: count such statements apart). THE CARD IS WHAT COUNTS. Prove the row's statement (the work); the ties are given (YtibigfkeaemanaaGreatDoorTie.lean); close each card by the builder's one call (the guide's Derived/Test/ToyasCard.lean, 'card_holds'). Laid BY PROGRAM, IN A SANDBOX (cutbox-door.mjs). By AI agents, Wed Nov 11 2026. No macro, syntax, notation, axiom, sorry.
-/
import Derived.Test.YtibigfkeaemanaaGreatDoorRows
import GoSem.ClaimSeven
namespace Go.Proofs.YtibigfkeaemanaaGreatDoor
namespace Rows

/-- THE TIED CARD OF 'mahouttop.TopTotal'. -/
def topTotalCard : Claim7 := { stood := { row := topTotalRow, standIns := [], harness := (true, "381944cc77d4c303923e430f162bf3597c7fabff312eb2b925e5774486b52164"), looks := true }, kinds := [], alts := [], laidByText := true, laidKinds := [.data, .data, .data, .data, .data, .sentinel, .sentinel, .data, .pinned], laidTests := true, laidLooks := .later }
def TopTotalCardSaid : Prop := Claim7.holds Tryz.pinned (.plain (OpenSpec.ofChange topTotalSpec)) topTotalCard

/-- THE TIED CARD OF 'mahoutlaw17.EvalCounts'. -/
def evalCountsCard : Claim7 := { stood := { row := evalCountsRow, standIns := [], harness := (true, "381944cc77d4c303923e430f162bf3597c7fabff312eb2b925e5774486b52164"), looks := true }, kinds := [], alts := [], laidByText := true, laidKinds := [.data, .data, .data, .data, .sentinel, .sentinel, .data, .pinned], laidTests := true, laidLooks := .later }
def EvalCountsCardSaid : Prop := Claim7.holds Tryz.pinned (.plain (OpenSpec.ofChange evalCountsSpec)) evalCountsCard

/-- THE TIED CARD OF 'mahoutlaw17.EvalSums'. -/
def evalSumsCard : Claim7 := { stood := { row := evalSumsRow, standIns := [], harness := (true, "381944cc77d4c303923e430f162bf3597c7fabff312eb2b925e5774486b52164"), looks := true }, kinds := [], alts := [], laidByText := true, laidKinds := [.data, .data, .data, .data, .sentinel, .sentinel, .data, .pinned], laidTests := true, laidLooks := .later }
def EvalSumsCardSaid : Prop := Claim7.holds Tryz.pinned (.plain (OpenSpec.ofChange evalSumsSpec)) evalSumsCard

/-- THE TIED CARD OF 'mahoutlaw17.EvalCuts'. -/
def evalCutsCard : Claim7 := { stood := { row := evalCutsRow, standIns := [], harness := (true, "381944cc77d4c303923e430f162bf3597c7fabff312eb2b925e5774486b52164"), looks := true }, kinds := [], alts := [], laidByText := true, laidKinds := [.data, .data, .data, .data, .sentinel, .sentinel, .data, .pinned], laidTests := true, laidLooks := .later }
def EvalCutsCardSaid : Prop := Claim7.holds Tryz.pinned (.plain (OpenSpec.ofChange evalCutsSpec)) evalCutsCard

/-- THE SECOND FORM's CARD OF 'mahouttop.TopTotal'. -/
def topTotalUptoCard : Claim7 := { stood := { row := topTotalUptoRow, standIns := [], harness := (true, "381944cc77d4c303923e430f162bf3597c7fabff312eb2b925e5774486b52164"), looks := true }, kinds := [], alts := [], laidByText := true, laidKinds := [.data, .data, .data, .data, .data, .sentinel, .sentinel, .data, .pinned], laidTests := true, laidLooks := .later }
def TopTotalUptoCardSaid : Prop := Claim7.holds Tryz.pinned (.plain (OpenSpec.upto topTotalSpec)) topTotalUptoCard

/-- THE SECOND FORM's CARD OF 'mahoutlaw17.EvalCounts'. -/
def evalCountsUptoCard : Claim7 := { stood := { row := evalCountsUptoRow, standIns := [], harness := (true, "381944cc77d4c303923e430f162bf3597c7fabff312eb2b925e5774486b52164"), looks := true }, kinds := [], alts := [], laidByText := true, laidKinds := [.data, .data, .data, .data, .sentinel, .sentinel, .data, .pinned], laidTests := true, laidLooks := .later }
def EvalCountsUptoCardSaid : Prop := Claim7.holds Tryz.pinned (.plain (OpenSpec.upto evalCountsSpec)) evalCountsUptoCard

/-- THE SECOND FORM's CARD OF 'mahoutlaw17.EvalSums'. -/
def evalSumsUptoCard : Claim7 := { stood := { row := evalSumsUptoRow, standIns := [], harness := (true, "381944cc77d4c303923e430f162bf3597c7fabff312eb2b925e5774486b52164"), looks := true }, kinds := [], alts := [], laidByText := true, laidKinds := [.data, .data, .data, .data, .sentinel, .sentinel, .data, .pinned], laidTests := true, laidLooks := .later }
def EvalSumsUptoCardSaid : Prop := Claim7.holds Tryz.pinned (.plain (OpenSpec.upto evalSumsSpec)) evalSumsUptoCard

/-- THE SECOND FORM's CARD OF 'mahoutlaw17.EvalCuts'. -/
def evalCutsUptoCard : Claim7 := { stood := { row := evalCutsUptoRow, standIns := [], harness := (true, "381944cc77d4c303923e430f162bf3597c7fabff312eb2b925e5774486b52164"), looks := true }, kinds := [], alts := [], laidByText := true, laidKinds := [.data, .data, .data, .data, .sentinel, .sentinel, .data, .pinned], laidTests := true, laidLooks := .later }
def EvalCutsUptoCardSaid : Prop := Claim7.holds Tryz.pinned (.plain (OpenSpec.upto evalCutsSpec)) evalCutsUptoCard
end Rows
end Go.Proofs.YtibigfkeaemanaaGreatDoor
