/-
  TreeNil is true of every input: the evaluator's word.
-/
import Derived.Test.YtbjnnnmmekmldaaDoorAbB
import Derived.Test.YtbjnnnmmekmldaaDoorProg
import Derived.KernelRfl
namespace Go.Proofs.YtbjnnnmmekmldaaDoor
open Go.Ab
abbrev piece : Ty := .cons (.cons (.int .i64) (.cons (.int .i64) (.cons (.int .i64) .nil))) (.cons (.int .i64) (.cons (.int .u32) .nil))
abbrev change : Ty := .cons (.int .i64) (.cons (.int .i64) (.cons (.int .i64) (.cons .str (.cons .str (.cons piece .nil)))))
set_option linter.unusedVariables false
set_option maxRecDepth 1000000 in
theorem treeNil_law (x : change.T) (w : change.WF x) : HF Tryd.prog 5 #[change.val x] (AH.bare Tryd.prog) fun v _ => v = .bool true :=
  (HF.of_fnA (P := Tryd.prog) 100 (f := 5) (args := #[change.val x]) (h := AH.bare Tryd.prog) (h' := AH.bare Tryd.prog) (v := .bool true) (q := false) (by kernel_rfl)).mono fun v h' ⟨a, _⟩ => a
end Go.Proofs.YtbjnnnmmekmldaaDoor
