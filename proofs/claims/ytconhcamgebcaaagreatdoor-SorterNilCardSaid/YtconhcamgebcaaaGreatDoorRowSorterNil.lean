/-
  THE CARD OF SorterNil: for every input the law returns true and the arguments read as before.
-/
import Derived.Test.YtconhcamgebcaaaGreatDoorOverSorterNil
import Derived.Test.YtconhcamgebcaaaGreatDoorGoes
import Derived.Test.YtconhcamgebcaaaGreatDoorCards
import Derived.Test.YtconhcamgebcaaaGreatDoorTie
import Derived.Test.YtconhcamgebcaaaGreatDoorSorter
import Derived.Test.YtconhcamgebcaaaGreatDoorFSorterNil
import Derived.WalkKit
import Derived.ProofKit
import Derived.OpenShut
import Derived.ShutString
import Derived.ChangeOld
import Derived.Below
import Derived.SizedLaws
import Derived.SliceStrings
import Derived.JoinedCond
import Derived.Deep.DeepHandedRow
import Derived.Lib.LaidTab
import Derived.Lay
import Derived.Carry
namespace Go.Proofs.YtconhcamgebcaaaGreatDoor.sorterNil
open Go.ChangeShapes Go.WideShapes Go.ChangeAt Go.RowKit Go.Ab
set_option linter.unusedVariables false
set_option linter.unusedSimpArgs false
theorem plain (f : FuncId) (fn : Func) (hf : Tryz.pinned.checked.prog.funcNamed "mahout/mahoutlaw20.SorterNil" = some f) (hfn : Tryz.pinned.checked.prog.funcs[f]? = some fn) :
    true = Tryz.pinned.checked.prog.looks [] ∧ ∀ (j : Nat) t, fn.params[j]? = some t → Tryz.pinned.checked.prog.wantsStandIn t = false := by
  obtain rfl : f = 6 := Option.some.inj ((show Tryz.prog.funcNamed "mahout/mahoutlaw20.SorterNil" = some 6 by kernel_rfl).symm.trans hf) |>.symm
  obtain rfl : fn = Tryz.f6 := (Option.some.inj (Tryz.func6.symm.trans hfn)).symm
  refine ⟨by kernel_rfl, fun j t ht => ?_⟩
  rw [Tryz.params6] at ht
  have hm : t ∈ [3, 3, 33] := by simpa using Array.mem_of_getElem? ht
  have hall : ([3, 3, 33].all fun u => !Tryz.prog.wantsStandIn u) = true := by kernel_rfl
  exact (show Tryz.prog.wantsStandIn t = false by simpa using List.all_eq_true.1 hall t hm)
theorem card : Rows.SorterNilCardSaid :=
  Claim7.holds_tied_plain_at .later [] _ _ _ _ over (fun _ h => by cases h) (by kernel_rfl) (fun _ h => by cases h) sorterNil_row_tie rfl ⟨rfl, rfl⟩ (by kernel_rfl) rfl plain (goes_none goes_all rfl)
end Go.Proofs.YtconhcamgebcaaaGreatDoor.sorterNil
namespace Go.Proofs.YtconhcamgebcaaaGreatDoor
theorem sorterNil_holds : Rows.SorterNilCardSaid := sorterNil.card
#print axioms sorterNil_holds
end Go.Proofs.YtconhcamgebcaaaGreatDoor
