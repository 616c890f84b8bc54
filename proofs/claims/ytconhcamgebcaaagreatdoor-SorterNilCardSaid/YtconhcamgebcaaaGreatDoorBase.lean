/-
  What the laws of this seat share: strings.Index as it is given, and the heap at the beginning of a law's call.
-/
import Derived.Test.YtconhcamgebcaaaGreatDoorAbD
import Derived.Test.YtconhcamgebcaaaGreatDoorRows
import Derived.Test.YtconhcamgebcaaaGreatDoorShelf
namespace Go.Proofs.YtconhcamgebcaaaGreatDoor
open Go.Ab
set_option linter.unusedVariables false
abbrev X : CallF := idxX 328 2
theorem X_ok : CallOk Tryz.prog X := idxX_ok (of_decide_eq_true (by kernel_rfl)) fun s sub m w hs hm => Tryz.stringslite_Index s sub m w hs hm
theorem X_logs : CallLogs X := idxX_logs
/-- the heap at the beginning of a call -/
noncomputable def heap0 (l : List (String × DataW Unit)) (m : Int) : AH := AH.laidM Tryz.prog l 2 3 m
theorem heap0_rw {W : World} {l : List (String × DataW Unit)} (hl : laidMetH Tryz.prog l W) (hs : W.ShapedOpen Tryz.prog) (hh : (l.filter fun x => x.2.handleName?.isSome).isEmpty = true) : ∃ m, RW Tryz.prog (stillR Tryz.prog W) (heap0 l m) W := by
  obtain ⟨m, hm⟩ := Tryz.laysM219.s1_3 W hs
  exact ⟨m, rw_laidM (by kernel_rfl) hs hh hl (of_decide_eq_true (by kernel_rfl)) (by kernel_rfl) hm⟩
end Go.Proofs.YtconhcamgebcaaaGreatDoor
