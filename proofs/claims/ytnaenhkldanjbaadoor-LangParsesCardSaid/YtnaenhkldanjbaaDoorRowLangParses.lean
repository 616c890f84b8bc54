import Derived.Below
import Derived.Carry
import Derived.ChangeOld
import Derived.Deep.DeepHandedRow
import Derived.JoinedCond
import Derived.Lay
import Derived.Lib.LaidTab
import Derived.OpenShut
import Derived.ProofKit
import Derived.ShutString
import Derived.SizedLaws
import Derived.SliceStrings
import Derived.Test.YtnaenhkldanjbaaDoorCards
import Derived.Test.YtnaenhkldanjbaaDoorTie
import Derived.WalkKit
import Derived.Test.YtnaenhkldanjbaaDoorZ40
import Derived.Test.YtnaenhkldanjbaaDoorFLangParses
import Derived.Test.YtnaenhkldanjbaaDoorGoes
import Derived.Test.YtnaenhkldanjbaaDoorOverLangParses
namespace Go.Proofs.YtnaenhkldanjbaaDoor.langParses
open Go.ChangeShapes Go.WideShapes Go.ChangeAt Go.RowKit Go.Ab
set_option linter.unusedVariables false
set_option linter.unusedSimpArgs false
theorem plain (f : FuncId) (fn : Func) (hf : Tryd.pinned.checked.prog.funcNamed "mahout/mahoutlaw16.LangParses" = some f) (hfn : Tryd.pinned.checked.prog.funcs[f]? = some fn) :
    true = Tryd.pinned.checked.prog.looks [] ∧ ∀ (j : Nat) t, fn.params[j]? = some t → Tryd.pinned.checked.prog.wantsStandIn t = false := by
  obtain rfl : f = 3 := Option.some.inj ((show Tryd.prog.funcNamed "mahout/mahoutlaw16.LangParses" = some 3 by kernel_rfl).symm.trans hf) |>.symm
  obtain rfl : fn = Tryd.f3 := (Option.some.inj (Tryd.func3.symm.trans hfn)).symm
  refine ⟨by kernel_rfl, fun j t ht => ?_⟩
  rw [Tryd.params3] at ht
  have hm : t ∈ [9] := by simpa using Array.mem_of_getElem? ht
  have hall : ([9].all fun u => !Tryd.prog.wantsStandIn u) = true := by kernel_rfl
  exact (show Tryd.prog.wantsStandIn t = false by simpa using List.all_eq_true.1 hall t hm)
theorem card : Rows.LangParsesCardSaid :=
  Claim7.holds_tied_plain_at .later [] _ _ _ _ over (fun _ h => by cases h) (by kernel_rfl) (fun _ h => by cases h) langParses_row_tie rfl ⟨rfl, rfl⟩ (by kernel_rfl) rfl plain (goes_none goes_all rfl)
end Go.Proofs.YtnaenhkldanjbaaDoor.langParses
namespace Go.Proofs.YtnaenhkldanjbaaDoor
theorem langParses_holds : Rows.LangParsesCardSaid := langParses.card
#print axioms langParses_holds
end Go.Proofs.YtnaenhkldanjbaaDoor
