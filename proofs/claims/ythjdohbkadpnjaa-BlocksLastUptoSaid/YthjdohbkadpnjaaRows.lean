/-
  No cell of these rows narrows 'for every input' (looked for: loops, veiled, ifaces, maps, wideKeys, modest, calm, conditions, laid).
  DERIVED. THE GIVEN ROWS OF THIS SEAT. 5 by the template 'for every input the law returns true; each argument reads behind the call as it read before'; 0 by the template 'total and deterministic' (their statements: YthjdohbkadpnjaaTotals.lean).
  GIVEN WITH THE SEED: the statements are not yours to turn. If you find one false, say at which input.
  Laid BY PROGRAM, IN A SANDBOX (cutbox-rows.mjs): the forced cells as the released guide's own fill.sh prints them over the translation e2b8feecfec4476d… (all of the seat's roots in one cut). By AI agents, Wed Nov 11 2026. No macro, syntax, notation, axiom, sorry.
-/
import Derived.Test.YthjdohbkadpnjaaChecked
import GoSem.Claim
import GoSem.ClaimJoined
import GoSem.ClaimMapViews
import Derived.JoinedTies
import Derived.KernelRfl
namespace Go.Proofs.Ythjdohbkadpnjaa
/- THE CELL 'sum', in the pinned program and in every row, IS THE sha256 OF THE DUMP (.gsa) THAT YthjdohbkadpnjaaProg.lean LOADS. Nothing in Lean hashes anything: it is a label: what it is worth is what the hold of that sum in a sandbox is worth. -/
noncomputable def Try.pinned : Pinned := { name := "ythjdohbkadpnjaa", sum := "e2b8feecfec4476d8aaa25c96f2f16337887c7b309df04097e9933c9fed2226d", checked := Try.checked }
namespace Rows
def none {H : Type} : Left H := { results := [], args := [] }

/-- 'mahoutlaw15.BlocksAnswers': WHATEVER THE INPUT: true; the input reads as it did. -/
def blocksAnswersSpec : ChangeSpec := { name := "blocksAnswers", fn := fun _ => fun
  | [d1, d2, d3] => { results := [.lit (.bool true)], args := [d1, d2, d3] }
  | _ => none }
def blocksAnswersRow : OpenClaim := { program := "ythjdohbkadpnjaa", sum := "e2b8feecfec4476d8aaa25c96f2f16337887c7b309df04097e9933c9fed2226d", func := "mahout/mahoutlaw15.BlocksAnswers", spec := "blocksAnswers", unfollowed := true, recurses := true, plainKeys := false, apart := false }
def BlocksAnswersSaid : Prop := blocksAnswersRow.holds Try.pinned (OpenSpec.ofChange blocksAnswersSpec)

/-- ITS FALSE NEIGHBOUR: 'it returns false'. Refute it at one input. -/
def blocksAnswersWrong : ChangeSpec := { name := "blocksAnswers", fn := fun _ => fun
  | [d1, d2, d3] => { results := [.lit (.bool false)], args := [d1, d2, d3] }
  | _ => none }
def BlocksAnswersWrongFalsely : Prop := blocksAnswersRow.holds Try.pinned (OpenSpec.ofChange blocksAnswersWrong)

/-- 'mahoutlaw15.BlocksSafe': WHATEVER THE INPUT: true; the input reads as it did. -/
def blocksSafeSpec : ChangeSpec := { name := "blocksSafe", fn := fun _ => fun
  | [d1, d2, d3] => { results := [.lit (.bool true)], args := [d1, d2, d3] }
  | _ => none }
def blocksSafeRow : OpenClaim := { program := "ythjdohbkadpnjaa", sum := "e2b8feecfec4476d8aaa25c96f2f16337887c7b309df04097e9933c9fed2226d", func := "mahout/mahoutlaw15.BlocksSafe", spec := "blocksSafe", unfollowed := true, recurses := true, plainKeys := false, apart := false }
def BlocksSafeSaid : Prop := blocksSafeRow.holds Try.pinned (OpenSpec.ofChange blocksSafeSpec)

/-- ITS FALSE NEIGHBOUR: 'it returns false'. Refute it at one input. -/
def blocksSafeWrong : ChangeSpec := { name := "blocksSafe", fn := fun _ => fun
  | [d1, d2, d3] => { results := [.lit (.bool false)], args := [d1, d2, d3] }
  | _ => none }
def BlocksSafeWrongFalsely : Prop := blocksSafeRow.holds Try.pinned (OpenSpec.ofChange blocksSafeWrong)

/-- 'mahoutlaw15.BlocksNil': WHATEVER THE INPUT: true; the input reads as it did. -/
def blocksNilSpec : ChangeSpec := { name := "blocksNil", fn := fun _ => fun
  | [d] => { results := [.lit (.bool true)], args := [d] }
  | _ => none }
def blocksNilRow : OpenClaim := { program := "ythjdohbkadpnjaa", sum := "e2b8feecfec4476d8aaa25c96f2f16337887c7b309df04097e9933c9fed2226d", func := "mahout/mahoutlaw15.BlocksNil", spec := "blocksNil", unfollowed := true, recurses := true, plainKeys := false, apart := false }
def BlocksNilSaid : Prop := blocksNilRow.holds Try.pinned (OpenSpec.ofChange blocksNilSpec)

/-- ITS FALSE NEIGHBOUR: 'it returns false'. Refute it at one input. -/
def blocksNilWrong : ChangeSpec := { name := "blocksNil", fn := fun _ => fun
  | [d] => { results := [.lit (.bool false)], args := [d] }
  | _ => none }
def BlocksNilWrongFalsely : Prop := blocksNilRow.holds Try.pinned (OpenSpec.ofChange blocksNilWrong)

/-- 'mahoutlaw15.BlocksPlaces': WHATEVER THE INPUT: true; the input reads as it did. -/
def blocksPlacesSpec : ChangeSpec := { name := "blocksPlaces", fn := fun _ => fun
  | [d1, d2, d3] => { results := [.lit (.bool true)], args := [d1, d2, d3] }
  | _ => none }
def blocksPlacesRow : OpenClaim := { program := "ythjdohbkadpnjaa", sum := "e2b8feecfec4476d8aaa25c96f2f16337887c7b309df04097e9933c9fed2226d", func := "mahout/mahoutlaw15.BlocksPlaces", spec := "blocksPlaces", unfollowed := true, recurses := true, plainKeys := false, apart := false }
def BlocksPlacesSaid : Prop := blocksPlacesRow.holds Try.pinned (OpenSpec.ofChange blocksPlacesSpec)

/-- ITS FALSE NEIGHBOUR: 'it returns false'. Refute it at one input. -/
def blocksPlacesWrong : ChangeSpec := { name := "blocksPlaces", fn := fun _ => fun
  | [d1, d2, d3] => { results := [.lit (.bool false)], args := [d1, d2, d3] }
  | _ => none }
def BlocksPlacesWrongFalsely : Prop := blocksPlacesRow.holds Try.pinned (OpenSpec.ofChange blocksPlacesWrong)

/-- 'mahoutlaw15.BlocksLast': WHATEVER THE INPUT: true; the input reads as it did. -/
def blocksLastSpec : ChangeSpec := { name := "blocksLast", fn := fun _ => fun
  | [d1, d2, d3] => { results := [.lit (.bool true)], args := [d1, d2, d3] }
  | _ => none }
def blocksLastRow : OpenClaim := { program := "ythjdohbkadpnjaa", sum := "e2b8feecfec4476d8aaa25c96f2f16337887c7b309df04097e9933c9fed2226d", func := "mahout/mahoutlaw15.BlocksLast", spec := "blocksLast", unfollowed := true, recurses := true, plainKeys := false, apart := false }
def BlocksLastSaid : Prop := blocksLastRow.holds Try.pinned (OpenSpec.ofChange blocksLastSpec)

/-- ITS FALSE NEIGHBOUR: 'it returns false'. Refute it at one input. -/
def blocksLastWrong : ChangeSpec := { name := "blocksLast", fn := fun _ => fun
  | [d1, d2, d3] => { results := [.lit (.bool false)], args := [d1, d2, d3] }
  | _ => none }
def BlocksLastWrongFalsely : Prop := blocksLastRow.holds Try.pinned (OpenSpec.ofChange blocksLastWrong)

/- THE SECOND FORM. 'bulk': how many values and letters a reading holds, each counted each time it is reached (what is shared counts as often as it is met; a slice's spare places count too). A statement '..UptoSaid' is the law's where the arguments, and the package variables that the reading takes, are together of bulk at most 1048576: NARROWER than '..Said'. Prove '..Said' where nothing that the law and all that it calls make is longer than what came in: it says more and counts as full. Else prove '..UptoSaid'. A law counts once. -/
mutual
def uptoBulk {H : Type} : DataW H → Nat
  | .lit (.string bytes) => bytes.length + 1
  | .lit _ => 1
  | .nil => 1
  | .ptr d => uptoBulk d + 1
  | .slice elems spare => uptoBulkAll elems + uptoBulkAll spare + 1
  | .agg parts => uptoBulkAll parts + 1
  | .iface _ d => uptoBulk d + 1
  | .map entries => uptoBulkEntries entries + 1
  | .held _ => 1
def uptoBulkAll {H : Type} : List (DataW H) → Nat
  | [] => 0
  | d :: r => uptoBulk d + uptoBulkAll r
def uptoBulkEntries {H : Type} : List (Lit × DataW H) → Nat
  | [] => 0
  | x :: r => uptoBulkEntry x + uptoBulkEntries r
def uptoBulkEntry {H : Type} : Lit × DataW H → Nat
  | (.string bytes, d) => bytes.length + uptoBulk d + 1
  | (_, d) => uptoBulk d + 1
 end
def uptoSmall : (H : Type) → List (DataW H) → Bool := fun _ ds => decide (uptoBulkAll ds ≤ 1048576)
def OpenSpec.upto (s : _root_.Go.ChangeSpec) : _root_.Go.OpenSpec := { _root_.Go.OpenSpec.ofChange s with cond := some uptoSmall }

/-- 'mahoutlaw15.BlocksAnswers', WHERE WHAT IT READS IS OF BULK AT MOST 1048576: true; the input reads as it did. -/
def blocksAnswersUptoRow : OpenClaim := { program := "ythjdohbkadpnjaa", sum := "e2b8feecfec4476d8aaa25c96f2f16337887c7b309df04097e9933c9fed2226d", func := "mahout/mahoutlaw15.BlocksAnswers", spec := "blocksAnswers", unfollowed := true, recurses := true, plainKeys := false, apart := false, narrowed := true }
def BlocksAnswersUptoSaid : Prop := blocksAnswersUptoRow.holds Try.pinned (OpenSpec.upto blocksAnswersSpec)

/-- 'mahoutlaw15.BlocksSafe', WHERE WHAT IT READS IS OF BULK AT MOST 1048576: true; the input reads as it did. -/
def blocksSafeUptoRow : OpenClaim := { program := "ythjdohbkadpnjaa", sum := "e2b8feecfec4476d8aaa25c96f2f16337887c7b309df04097e9933c9fed2226d", func := "mahout/mahoutlaw15.BlocksSafe", spec := "blocksSafe", unfollowed := true, recurses := true, plainKeys := false, apart := false, narrowed := true }
def BlocksSafeUptoSaid : Prop := blocksSafeUptoRow.holds Try.pinned (OpenSpec.upto blocksSafeSpec)

/-- 'mahoutlaw15.BlocksNil', WHERE WHAT IT READS IS OF BULK AT MOST 1048576: true; the input reads as it did. -/
def blocksNilUptoRow : OpenClaim := { program := "ythjdohbkadpnjaa", sum := "e2b8feecfec4476d8aaa25c96f2f16337887c7b309df04097e9933c9fed2226d", func := "mahout/mahoutlaw15.BlocksNil", spec := "blocksNil", unfollowed := true, recurses := true, plainKeys := false, apart := false, narrowed := true }
def BlocksNilUptoSaid : Prop := blocksNilUptoRow.holds Try.pinned (OpenSpec.upto blocksNilSpec)

/-- 'mahoutlaw15.BlocksPlaces', WHERE WHAT IT READS IS OF BULK AT MOST 1048576: true; the input reads as it did. -/
def blocksPlacesUptoRow : OpenClaim := { program := "ythjdohbkadpnjaa", sum := "e2b8feecfec4476d8aaa25c96f2f16337887c7b309df04097e9933c9fed2226d", func := "mahout/mahoutlaw15.BlocksPlaces", spec := "blocksPlaces", unfollowed := true, recurses := true, plainKeys := false, apart := false, narrowed := true }
def BlocksPlacesUptoSaid : Prop := blocksPlacesUptoRow.holds Try.pinned (OpenSpec.upto blocksPlacesSpec)

/-- 'mahoutlaw15.BlocksLast', WHERE WHAT IT READS IS OF BULK AT MOST 1048576: true; the input reads as it did. -/
def blocksLastUptoRow : OpenClaim := { program := "ythjdohbkadpnjaa", sum := "e2b8feecfec4476d8aaa25c96f2f16337887c7b309df04097e9933c9fed2226d", func := "mahout/mahoutlaw15.BlocksLast", spec := "blocksLast", unfollowed := true, recurses := true, plainKeys := false, apart := false, narrowed := true }
def BlocksLastUptoSaid : Prop := blocksLastUptoRow.holds Try.pinned (OpenSpec.upto blocksLastSpec)

end Rows
end Go.Proofs.Ythjdohbkadpnjaa
