-- PRINTED by print.py (a twelfth state) out of the translation. Not trusted: Lean checks it.
import Derived.Test.YthllnfdbhfkflaaDoorProg
import Derived.Below
import Derived.Deep.Draws
import Derived.Deep.AppendLies
import Derived.Maps.AppendAt
import Derived.OwnWalk
import Derived.Laws.BytesArg
import Derived.Laws.MakeOwn
import Derived.Laws.OwnMore
import Derived.Deep.OwnRows
import Derived.Tactics
import Derived.Lib.ConvBytes
import Derived.Laws.Slices
import Derived.WalkKit
import Derived.KernelRfl
import Derived.RowKit3
import Derived.Deep.LoopGhost
import Derived.Deep.QuietTactic
import Derived.BigQuiet
import Derived.WideLaws
import Derived.Deep.DeepCutAuto
import Derived.Deep.CutBlock
import Derived.Deep.RegionHeld3
import Derived.Laws.Rows
import Derived.Lib.AppendStr
import Derived.ArgAppend
import Derived.Laws.IdiomCopy
import Derived.OrdersHeld
import Derived.Laws.BitsLemmas
import Derived.RowKit
import Derived.Test.YthllnfdbhfkflaaDoorKit
import Derived.Test.YthllnfdbhfkflaaDoorWWords
import Derived.Test.YthllnfdbhfkflaaDoorWLast
import Derived.Test.YthllnfdbhfkflaaDoorWTab
import Derived.Test.YthllnfdbhfkflaaDoorWFour
import Derived.Test.YthllnfdbhfkflaaDoorWQPut
import Derived.Test.YthllnfdbhfkflaaDoorWApart
import Derived.Test.YthllnfdbhfkflaaDoorWArr
import Derived.Test.YthllnfdbhfkflaaDoorWZeros
import Derived.Test.YthllnfdbhfkflaaDoorWFoot
import Derived.Test.YthllnfdbhfkflaaDoorWKept
import Derived.Test.YthllnfdbhfkflaaDoorWShare
import Derived.Test.YthllnfdbhfkflaaDoorWN
import Derived.Test.YthllnfdbhfkflaaDoorWFootNe
import Derived.Test.YthllnfdbhfkflaaDoorWAt
import Derived.Test.YthllnfdbhfkflaaDoorWEqStruct
import Derived.Test.YthllnfdbhfkflaaDoorWRepsOne
import Derived.Test.YthllnfdbhfkflaaDoorWInv
import Derived.Test.YthllnfdbhfkflaaDoorWInvWords
import Derived.Test.YthllnfdbhfkflaaDoorWGuard
import Derived.Test.YthllnfdbhfkflaaDoorWNEv
import Derived.Test.YthllnfdbhfkflaaDoorWMore
namespace Go.Proofs.YthllnfdbhfkflaaDoor.P
open Go.RowKit Go.Proofs.YthllnfdbhfkflaaDoorW.PrintWords Go.Proofs.YthllnfdbhfkflaaDoorW.PrintLast Go.Proofs.YthllnfdbhfkflaaDoorW.PrintMore
attribute [local go_sem] max2_int min2_int max_two min_two max_three min_three max_four min_four   -- for this text's walks alone
set_option linter.unusedVariables false
set_option linter.unusedSimpArgs false



def errW : Option Int → Value
  | none => .nilIface
  | some c => .iface 0 (.int .i64 c)
theorem errW_none : errW none = .nilIface := rfl
theorem errW_some (c : Int) : errW (some c) = .iface 0 (.int .i64 c) := rfl

theorem info9 : (Tryd.prog.info? 9).map (fun i => (i.zero, i.size, i.bytes)) = some (some (.string ⟨#[]⟩), 1, 16) := by kernel_rfl
-- the values' own types

end Go.Proofs.YthllnfdbhfkflaaDoor.P
