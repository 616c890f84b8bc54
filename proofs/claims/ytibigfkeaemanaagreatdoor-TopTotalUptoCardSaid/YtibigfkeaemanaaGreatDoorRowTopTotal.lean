import Derived.Below
import Derived.Carry
import Derived.ChangeOld
import Derived.Deep.DeepHandedRow
import Derived.JoinedCond
import Derived.Lay
import Derived.Lib.LaidTab
import Derived.OpenShut
import Derived.ProofKit
import Derived.ShutString
import Derived.SizedLaws
import Derived.SliceStrings
import Derived.Test.YtibigfkeaemanaaGreatDoorCards
import Derived.Test.YtibigfkeaemanaaGreatDoorTie
import Derived.WalkKit
import Derived.Test.YtibigfkeaemanaaGreatDoorZ40
import Derived.Test.YtibigfkeaemanaaGreatDoorFTopTotal
import Derived.Test.YtibigfkeaemanaaGreatDoorGoes
import Derived.Test.YtibigfkeaemanaaGreatDoorOverTopTotal
namespace Go.Proofs.YtibigfkeaemanaaGreatDoor.topTotal
open Go.ChangeShapes Go.WideShapes Go.ChangeAt Go.RowKit Go.Ab
set_option linter.unusedVariables false
set_option linter.unusedSimpArgs false
theorem plain (f : FuncId) (fn : Func) (hf : Tryz.pinned.checked.prog.funcNamed "mahout/mahouttop.TopTotal" = some f) (hfn : Tryz.pinned.checked.prog.funcs[f]? = some fn) :
    true = Tryz.pinned.checked.prog.looks [] ∧ ∀ (j : Nat) t, fn.params[j]? = some t → Tryz.pinned.checked.prog.wantsStandIn t = false := by
  obtain rfl : f = 3 := Option.some.inj ((show Tryz.prog.funcNamed "mahout/mahouttop.TopTotal" = some 3 by kernel_rfl).symm.trans hf) |>.symm
  obtain rfl : fn = Tryz.f3 := (Option.some.inj (Tryz.func3.symm.trans hfn)).symm
  refine ⟨by kernel_rfl, fun j t ht => ?_⟩
  rw [Tryz.params3] at ht
  have hm : t ∈ [9, 9, 3] := by simpa using Array.mem_of_getElem? ht
  have hall : ([9, 9, 3].all fun u => !Tryz.prog.wantsStandIn u) = true := by kernel_rfl
  exact (show Tryz.prog.wantsStandIn t = false by simpa using List.all_eq_true.1 hall t hm)
theorem card : Rows.TopTotalUptoCardSaid :=
  Claim7.holds_tied_plain_at .later [] _ _ _ _ over (fun _ h => by cases h) (by kernel_rfl) (fun _ h => by cases h) topTotalUpto_row_tie rfl ⟨rfl, rfl⟩ (by kernel_rfl) rfl plain (goes_none goes_all rfl)
end Go.Proofs.YtibigfkeaemanaaGreatDoor.topTotal
namespace Go.Proofs.YtibigfkeaemanaaGreatDoor
theorem topTotal_upto_holds : Rows.TopTotalUptoCardSaid := topTotal.card
#print axioms topTotal_upto_holds
end Go.Proofs.YtibigfkeaemanaaGreatDoor
