/-
  NARROWER THAN 'FOR EVERY INPUT', by the rows' own cells (each row's printed sentence says how): PathsWithin: laid · PathsSplits: laid · PathsOrder: laid · PathsJoins: laid · PathsUp: laid.
  DERIVED. THE GIVEN ROWS OF THIS SEAT. 5 by the template 'for every input the law returns true; each argument reads behind the call as it read before'; 0 by the template 'total and deterministic' (their statements: YthllnfdbhfkflaaDoorTotals.lean).
  GIVEN WITH THE SEED: the statements are not yours to turn. If you find one false, say at which input.
  Laid BY PROGRAM, IN A SANDBOX (cutbox-rows.mjs): the forced cells as the released guide's own fill.sh prints them over the translation 726bc87775b62423… (all of the seat's roots in one cut). By AI agents, Wed Nov 11 2026. No macro, syntax, notation, axiom, sorry.
-/
import Derived.Test.YthllnfdbhfkflaaDoorChecked
import GoSem.PinnedTables
import GoSem.Claim
import GoSem.ClaimJoined
import GoSem.ClaimMapViews
import Derived.JoinedTies
import Derived.KernelRfl
namespace Go.Proofs.YthllnfdbhfkflaaDoor
/- THE CELL 'sum', in the pinned program and in every row, IS THE sha256 OF THE DUMP (.gsa) THAT YthllnfdbhfkflaaDoorProg.lean LOADS. Nothing in Lean hashes anything: it is a label: what it is worth is what the hold of that sum in a sandbox is worth. -/
noncomputable def Tryd.pinned : Pinned := { name := "ythllnfdbhfkflaadoor", sum := "726bc87775b62423e51ccc6a82d810bbf349f706668716406efc7858ddf78a50", checked := Tryd.checked }
namespace Rows
def none {H : Type} : Left H := { results := [], args := [] }

/- WHAT THE LISTED PACKAGE-LEVEL VARIABLES READ AS WHEN THE CALL BEGINS. Each datum BY PROGRAM (the guide's laid-datum.mjs) off the statement by which the dump's own 'gosem.cut.vars' lays the variable. In a bare row this is a premise. The card (YthllnfdbhfkflaaDoorCards.lean) ties it to the program's text. -/
def laid_unicode_utf8_acceptRanges {H : Type} : DataW H := .agg [.agg [.lit (.int .u8 128), .lit (.int .u8 191)], .agg [.lit (.int .u8 160), .lit (.int .u8 191)], .agg [.lit (.int .u8 128), .lit (.int .u8 159)], .agg [.lit (.int .u8 144), .lit (.int .u8 191)], .agg [.lit (.int .u8 128), .lit (.int .u8 143)], .agg [.lit (.int .u8 0), .lit (.int .u8 0)], .agg [.lit (.int .u8 0), .lit (.int .u8 0)], .agg [.lit (.int .u8 0), .lit (.int .u8 0)], .agg [.lit (.int .u8 0), .lit (.int .u8 0)], .agg [.lit (.int .u8 0), .lit (.int .u8 0)], .agg [.lit (.int .u8 0), .lit (.int .u8 0)], .agg [.lit (.int .u8 0), .lit (.int .u8 0)], .agg [.lit (.int .u8 0), .lit (.int .u8 0)], .agg [.lit (.int .u8 0), .lit (.int .u8 0)], .agg [.lit (.int .u8 0), .lit (.int .u8 0)], .agg [.lit (.int .u8 0), .lit (.int .u8 0)]]
/-- One of Go's own tables, pinned by name: the form's constant. -/
def laid_unicode_utf8_first : DataW Unit := Go.Pinned.utf8First

/-- 'mahoutlaw06.PathsWithin': WHATEVER THE INPUT: true; the input reads as it did. -/
def pathsWithinSpec : ChangeSpec := { name := "pathsWithin", fn := fun _ => fun
  | [d1, d2, d3] => { results := [.lit (.bool true)], args := [d1, d2, d3] }
  | _ => none }
def pathsWithinRow : OpenClaim := { program := "ythllnfdbhfkflaadoor", sum := "726bc87775b62423e51ccc6a82d810bbf349f706668716406efc7858ddf78a50", func := "mahout/mahoutlaw06.PathsWithin", spec := "pathsWithin", inPlace := ["internal/bytealg.CountString", "internal/bytealg.IndexByteString", "internal/bytealg.IndexString"], unfollowed := true, recurses := true, named := ["unicode/utf8.first", "unicode/utf8.acceptRanges", "internal/bytealg.MaxLen"], apart := false, laid := [("unicode/utf8.acceptRanges", laid_unicode_utf8_acceptRanges), ("unicode/utf8.first", laid_unicode_utf8_first)] }
def PathsWithinSaid : Prop := pathsWithinRow.holds Tryd.pinned (OpenSpec.ofChange pathsWithinSpec)

/-- ITS FALSE NEIGHBOUR: 'it returns false'. Refute it at one input. -/
def pathsWithinWrong : ChangeSpec := { name := "pathsWithin", fn := fun _ => fun
  | [d1, d2, d3] => { results := [.lit (.bool false)], args := [d1, d2, d3] }
  | _ => none }
def PathsWithinWrongFalsely : Prop := pathsWithinRow.holds Tryd.pinned (OpenSpec.ofChange pathsWithinWrong)

/-- 'mahoutlaw06.PathsSplits': WHATEVER THE INPUT: true; the input reads as it did. -/
def pathsSplitsSpec : ChangeSpec := { name := "pathsSplits", fn := fun _ => fun
  | [d] => { results := [.lit (.bool true)], args := [d] }
  | _ => none }
def pathsSplitsRow : OpenClaim := { program := "ythllnfdbhfkflaadoor", sum := "726bc87775b62423e51ccc6a82d810bbf349f706668716406efc7858ddf78a50", func := "mahout/mahoutlaw06.PathsSplits", spec := "pathsSplits", inPlace := ["internal/bytealg.CountString", "internal/bytealg.IndexByteString", "internal/bytealg.IndexString"], unfollowed := true, recurses := true, named := ["unicode/utf8.first", "unicode/utf8.acceptRanges", "internal/bytealg.MaxLen"], apart := false, laid := [("unicode/utf8.acceptRanges", laid_unicode_utf8_acceptRanges), ("unicode/utf8.first", laid_unicode_utf8_first)] }
def PathsSplitsSaid : Prop := pathsSplitsRow.holds Tryd.pinned (OpenSpec.ofChange pathsSplitsSpec)

/-- ITS FALSE NEIGHBOUR: 'it returns false'. Refute it at one input. -/
def pathsSplitsWrong : ChangeSpec := { name := "pathsSplits", fn := fun _ => fun
  | [d] => { results := [.lit (.bool false)], args := [d] }
  | _ => none }
def PathsSplitsWrongFalsely : Prop := pathsSplitsRow.holds Tryd.pinned (OpenSpec.ofChange pathsSplitsWrong)

/-- 'mahoutlaw06.PathsOrder': WHATEVER THE INPUT: true; the input reads as it did. -/
def pathsOrderSpec : ChangeSpec := { name := "pathsOrder", fn := fun _ => fun
  | [d1, d2, d3] => { results := [.lit (.bool true)], args := [d1, d2, d3] }
  | _ => none }
def pathsOrderRow : OpenClaim := { program := "ythllnfdbhfkflaadoor", sum := "726bc87775b62423e51ccc6a82d810bbf349f706668716406efc7858ddf78a50", func := "mahout/mahoutlaw06.PathsOrder", spec := "pathsOrder", inPlace := ["internal/bytealg.CountString", "internal/bytealg.IndexByteString", "internal/bytealg.IndexString", "internal/bytealg.abigen_runtime_cmpstring"], unfollowed := true, recurses := true, named := ["unicode/utf8.first", "unicode/utf8.acceptRanges", "internal/bytealg.MaxLen"], apart := false, laid := [("unicode/utf8.acceptRanges", laid_unicode_utf8_acceptRanges), ("unicode/utf8.first", laid_unicode_utf8_first)] }
def PathsOrderSaid : Prop := pathsOrderRow.holds Tryd.pinned (OpenSpec.ofChange pathsOrderSpec)

/-- ITS FALSE NEIGHBOUR: 'it returns false'. Refute it at one input. -/
def pathsOrderWrong : ChangeSpec := { name := "pathsOrder", fn := fun _ => fun
  | [d1, d2, d3] => { results := [.lit (.bool false)], args := [d1, d2, d3] }
  | _ => none }
def PathsOrderWrongFalsely : Prop := pathsOrderRow.holds Tryd.pinned (OpenSpec.ofChange pathsOrderWrong)

/-- 'mahoutlaw06.PathsJoins': WHATEVER THE INPUT: true; the input reads as it did. -/
def pathsJoinsSpec : ChangeSpec := { name := "pathsJoins", fn := fun _ => fun
  | [d] => { results := [.lit (.bool true)], args := [d] }
  | _ => none }
def pathsJoinsRow : OpenClaim := { program := "ythllnfdbhfkflaadoor", sum := "726bc87775b62423e51ccc6a82d810bbf349f706668716406efc7858ddf78a50", func := "mahout/mahoutlaw06.PathsJoins", spec := "pathsJoins", inPlace := ["internal/bytealg.CountString", "internal/bytealg.IndexByteString", "internal/bytealg.IndexString", "internal/abi.NoEscape", "internal/bytealg.MakeNoZero"], unfollowed := true, recurses := true, named := ["unicode/utf8.first", "unicode/utf8.acceptRanges", "internal/bytealg.MaxLen"], apart := false, laid := [("unicode/utf8.acceptRanges", laid_unicode_utf8_acceptRanges), ("unicode/utf8.first", laid_unicode_utf8_first)] }
def PathsJoinsSaid : Prop := pathsJoinsRow.holds Tryd.pinned (OpenSpec.ofChange pathsJoinsSpec)

/-- ITS FALSE NEIGHBOUR: 'it returns false'. Refute it at one input. -/
def pathsJoinsWrong : ChangeSpec := { name := "pathsJoins", fn := fun _ => fun
  | [d] => { results := [.lit (.bool false)], args := [d] }
  | _ => none }
def PathsJoinsWrongFalsely : Prop := pathsJoinsRow.holds Tryd.pinned (OpenSpec.ofChange pathsJoinsWrong)

/-- 'mahoutlaw06.PathsUp': WHATEVER THE INPUT: true; the input reads as it did. -/
def pathsUpSpec : ChangeSpec := { name := "pathsUp", fn := fun _ => fun
  | [d] => { results := [.lit (.bool true)], args := [d] }
  | _ => none }
def pathsUpRow : OpenClaim := { program := "ythllnfdbhfkflaadoor", sum := "726bc87775b62423e51ccc6a82d810bbf349f706668716406efc7858ddf78a50", func := "mahout/mahoutlaw06.PathsUp", spec := "pathsUp", inPlace := ["internal/bytealg.CountString", "internal/bytealg.IndexByteString", "internal/bytealg.IndexString", "internal/abi.NoEscape", "internal/bytealg.MakeNoZero"], unfollowed := true, recurses := true, named := ["unicode/utf8.first", "unicode/utf8.acceptRanges", "internal/bytealg.MaxLen"], apart := false, laid := [("unicode/utf8.acceptRanges", laid_unicode_utf8_acceptRanges), ("unicode/utf8.first", laid_unicode_utf8_first)] }
def PathsUpSaid : Prop := pathsUpRow.holds Tryd.pinned (OpenSpec.ofChange pathsUpSpec)

/-- ITS FALSE NEIGHBOUR: 'it returns false'. Refute it at one input. -/
def pathsUpWrong : ChangeSpec := { name := "pathsUp", fn := fun _ => fun
  | [d] => { results := [.lit (.bool false)], args := [d] }
  | _ => none }
def PathsUpWrongFalsely : Prop := pathsUpRow.holds Tryd.pinned (OpenSpec.ofChange pathsUpWrong)

/- THE SECOND FORM. 'bulk': how many values and letters a reading holds, each counted each time it is reached (what is shared counts as often as it is met; a slice's spare places count too). A statement '..UptoSaid' is the law's where the arguments, and the package variables that the reading takes, are together of bulk at most 1048576: NARROWER than '..Said'. Prove '..Said' where nothing that the law and all that it calls make is longer than what came in: it says more and counts as full. Else prove '..UptoSaid'. A law counts once. -/
mutual
def uptoBulk {H : Type} : DataW H → Nat
  | .lit (.string bytes) => bytes.length + 1
  | .lit _ => 1
  | .nil => 1
  | .ptr d => uptoBulk d + 1
  | .slice elems spare => uptoBulkAll elems + uptoBulkAll spare + 1
  | .agg parts => uptoBulkAll parts + 1
  | .iface _ d => uptoBulk d + 1
  | .map entries => uptoBulkEntries entries + 1
  | .held _ => 1
def uptoBulkAll {H : Type} : List (DataW H) → Nat
  | [] => 0
  | d :: r => uptoBulk d + uptoBulkAll r
def uptoBulkEntries {H : Type} : List (Lit × DataW H) → Nat
  | [] => 0
  | x :: r => uptoBulkEntry x + uptoBulkEntries r
def uptoBulkEntry {H : Type} : Lit × DataW H → Nat
  | (.string bytes, d) => bytes.length + uptoBulk d + 1
  | (_, d) => uptoBulk d + 1
 end
def uptoSmall : (H : Type) → List (DataW H) → Bool := fun _ ds => decide (uptoBulkAll ds ≤ 1048576)
def OpenSpec.upto (s : _root_.Go.ChangeSpec) : _root_.Go.OpenSpec := { _root_.Go.OpenSpec.ofChange s with cond := some uptoSmall }

/-- 'mahoutlaw06.PathsWithin', WHERE WHAT IT READS IS OF BULK AT MOST 1048576: true; the input reads as it did. -/
def pathsWithinUptoRow : OpenClaim := { program := "ythllnfdbhfkflaadoor", sum := "726bc87775b62423e51ccc6a82d810bbf349f706668716406efc7858ddf78a50", func := "mahout/mahoutlaw06.PathsWithin", spec := "pathsWithin", inPlace := ["internal/bytealg.CountString", "internal/bytealg.IndexByteString", "internal/bytealg.IndexString"], unfollowed := true, recurses := true, named := ["unicode/utf8.first", "unicode/utf8.acceptRanges", "internal/bytealg.MaxLen"], apart := false, laid := [("unicode/utf8.acceptRanges", laid_unicode_utf8_acceptRanges), ("unicode/utf8.first", laid_unicode_utf8_first)], narrowed := true }
def PathsWithinUptoSaid : Prop := pathsWithinUptoRow.holds Tryd.pinned (OpenSpec.upto pathsWithinSpec)

/-- 'mahoutlaw06.PathsSplits', WHERE WHAT IT READS IS OF BULK AT MOST 1048576: true; the input reads as it did. -/
def pathsSplitsUptoRow : OpenClaim := { program := "ythllnfdbhfkflaadoor", sum := "726bc87775b62423e51ccc6a82d810bbf349f706668716406efc7858ddf78a50", func := "mahout/mahoutlaw06.PathsSplits", spec := "pathsSplits", inPlace := ["internal/bytealg.CountString", "internal/bytealg.IndexByteString", "internal/bytealg.IndexString"], unfollowed := true, recurses := true, named := ["unicode/utf8.first", "unicode/utf8.acceptRanges", "internal/bytealg.MaxLen"], apart := false, laid := [("unicode/utf8.acceptRanges", laid_unicode_utf8_acceptRanges), ("unicode/utf8.first", laid_unicode_utf8_first)], narrowed := true }
def PathsSplitsUptoSaid : Prop := pathsSplitsUptoRow.holds Tryd.pinned (OpenSpec.upto pathsSplitsSpec)

/-- 'mahoutlaw06.PathsOrder', WHERE WHAT IT READS IS OF BULK AT MOST 1048576: true; the input reads as it did. -/
def pathsOrderUptoRow : OpenClaim := { program := "ythllnfdbhfkflaadoor", sum := "726bc87775b62423e51ccc6a82d810bbf349f706668716406efc7858ddf78a50", func := "mahout/mahoutlaw06.PathsOrder", spec := "pathsOrder", inPlace := ["internal/bytealg.CountString", "internal/bytealg.IndexByteString", "internal/bytealg.IndexString", "internal/bytealg.abigen_runtime_cmpstring"], unfollowed := true, recurses := true, named := ["unicode/utf8.first", "unicode/utf8.acceptRanges", "internal/bytealg.MaxLen"], apart := false, laid := [("unicode/utf8.acceptRanges", laid_unicode_utf8_acceptRanges), ("unicode/utf8.first", laid_unicode_utf8_first)], narrowed := true }
def PathsOrderUptoSaid : Prop := pathsOrderUptoRow.holds Tryd.pinned (OpenSpec.upto pathsOrderSpec)

/-- 'mahoutlaw06.PathsJoins', WHERE WHAT IT READS IS OF BULK AT MOST 1048576: true; the input reads as it did. -/
def pathsJoinsUptoRow : OpenClaim := { program := "ythllnfdbhfkflaadoor", sum := "726bc87775b62423e51ccc6a82d810bbf349f706668716406efc7858ddf78a50", func := "mahout/mahoutlaw06.PathsJoins", spec := "pathsJoins", inPlace := ["internal/bytealg.CountString", "internal/bytealg.IndexByteString", "internal/bytealg.IndexString", "internal/abi.NoEscape", "internal/bytealg.MakeNoZero"], unfollowed := true, recurses := true, named := ["unicode/utf8.first", "unicode/utf8.acceptRanges", "internal/bytealg.MaxLen"], apart := false, laid := [("unicode/utf8.acceptRanges", laid_unicode_utf8_acceptRanges), ("unicode/utf8.first", laid_unicode_utf8_first)], narrowed := true }
def PathsJoinsUptoSaid : Prop := pathsJoinsUptoRow.holds Tryd.pinned (OpenSpec.upto pathsJoinsSpec)

/-- 'mahoutlaw06.PathsUp', WHERE WHAT IT READS IS OF BULK AT MOST 1048576: true; the input reads as it did. -/
def pathsUpUptoRow : OpenClaim := { program := "ythllnfdbhfkflaadoor", sum := "726bc87775b62423e51ccc6a82d810bbf349f706668716406efc7858ddf78a50", func := "mahout/mahoutlaw06.PathsUp", spec := "pathsUp", inPlace := ["internal/bytealg.CountString", "internal/bytealg.IndexByteString", "internal/bytealg.IndexString", "internal/abi.NoEscape", "internal/bytealg.MakeNoZero"], unfollowed := true, recurses := true, named := ["unicode/utf8.first", "unicode/utf8.acceptRanges", "internal/bytealg.MaxLen"], apart := false, laid := [("unicode/utf8.acceptRanges", laid_unicode_utf8_acceptRanges), ("unicode/utf8.first", laid_unicode_utf8_first)], narrowed := true }
def PathsUpUptoSaid : Prop := pathsUpUptoRow.holds Tryd.pinned (OpenSpec.upto pathsUpSpec)

end Rows
end Go.Proofs.YthllnfdbhfkflaaDoor
