/-
  StoreNil is true of every input.
-/
import Derived.Test.YtconhcamgebcaaaGreatDoorBase
namespace Go.Proofs.YtconhcamgebcaaaGreatDoor
open Go.Ab
set_option linter.unusedVariables false
abbrev storeBlock : Ty := .cons (.int .i64) (.cons (.int .i64) (.cons (.int .i64) .nil))
set_option maxRecDepth 1000000 in
theorem storeNil_law (m : Int) (b : storeBlock.T) (d : Ty.str.T) (w0 : storeBlock.WF b) (w1 : Ty.str.WF d) : HF Tryz.prog 7 #[storeBlock.val b, Ty.str.val d] (heap0 Rows.storeNilRow.laid m) fun v _ => v = .bool true := by
  obtain ⟨b1, b2, b3, u⟩ := b
  refine HC.to_HF ((Ex.of_runX X_ok X_logs 100 (v := .bool true) (h' := heap0 Rows.storeNilRow.laid m) (q := false) (by kernel_rfl)).mono fun r g e => ⟨.bool true, e.1, rfl⟩)
end Go.Proofs.YtconhcamgebcaaaGreatDoor
