/-
  AN ARGUMENT OF TYPE []string, OPENED: its strings, and that together they are small.
-/
import Derived.Test.YthllnfdbhfkflaaDoorRows
import Derived.Test.YthllnfdbhfkflaaDoorUp
import Derived.SliceStrings
import Derived.ProofKit
import Derived.OpenShut
set_option linter.unusedVariables false
namespace Go.Proofs.YthllnfdbhfkflaaDoor.P
open Go.RowKit Go.ChangeShapes Go.Mh Go.Proofs.YthllnfdbhfkflaaDoorW.PrintWords
theorem bulk_strs {H : Type} (ls : List ByteArray) : Rows.uptoBulkAll (strs (H := H) ls) = (flat (datas ls)).length := by
  induction ls with
  | nil => rfl
  | cons s ls ih =>
    have e1 : datas (s :: ls) = s.data.toList :: datas ls := rfl
    have e2 : strs (H := H) (s :: ls) = .lit (.string s.data.toList) :: strs ls := rfl
    rw [e1, e2, flat_cons]
    simp only [Rows.uptoBulkAll, Rows.uptoBulk, ih, List.length_cons, List.length_append]
    omega
theorem open_strs_row {H : Type} {enc : TypeId × Value → H} {W : World} {base : Nat} {sp : Nat → Bool} {held : Bool} {A : Option Addr} {len c : Nat} {d : DataW H} {p : List MemPlace} (hcells : Tryd.prog.cellsOf 9 = 1)
    (h : DataW.Trod enc Tryd.prog W base sp held 27 (.slice A len c) d p) (hb : Rows.uptoBulk d ≤ 1048576) :
    ∃ l : List ByteArray, len = l.length ∧ l.length ≤ c ∧ Kd.C Kd.string W A l.length l ∧ (flat (datas l)).length ≤ 1048576 := by
  obtain ⟨fuel, hf⟩ := h
  rcases open_strings Tryd.underlying27 Tryd.underlying9 hcells hf with ⟨hcs, hx⟩ | ⟨x, l, c', ss, hcs, _, hl, hm, hz, hx, hcell, hws⟩
  · simp [Value.cells] at hcs
    obtain ⟨rfl, rfl, rfl⟩ := hcs
    exact ⟨[], rfl, Nat.le_refl _, Kd.C_nil _ _, by simp [datas, flat]⟩
  · simp [Value.cells] at hcs
    obtain ⟨rfl, rfl, rfl⟩ := hcs
    have hd : d = .slice (strs (ss.take len)) (strs (ss.drop len)) := (Prod.mk.inj hx).1
    subst hd
    have hlen : len ≤ ss.length := by rw [hz]; split <;> omega
    have htl : (ss.take len).length = len := by simp; omega
    refine ⟨ss.take len, htl.symm, by omega, ?_, ?_⟩
    · refine Kd.C_of_reads (d := ByteArray.empty) ⟨rfl, by rw [htl]; unfold maxLen at hm; omega, fun _ => ⟨x, rfl, fun j hj => ?_⟩⟩
      have hj' : j < len := by omega
      rw [hcell j (by omega)]
      simp [List.getD_eq_getElem?_getD, hj']
    · simp only [Rows.uptoBulk, bulk_strs] at hb
      omega
end Go.Proofs.YthllnfdbhfkflaaDoor.P
