/-
  SMALL LAWS for the printed walks: '>', '<=', '>=' of strings in the print's spelling.
-/
import Derived.WalkKit
import Derived.Laws.Strings
namespace Go.Mh
open Go.RowKit

theorem bytesLess_irrefl (a : List UInt8) : Op.bytesLess a a = false := by
  induction a with
  | nil => rfl
  | cons x a ih => simp [Op.bytesLess, ih]
theorem bytesLess_flip (a b : List UInt8) : (!(Op.bytesLess a b || a == b)) = Op.bytesLess b a := by
  induction a generalizing b with
  | nil => cases b <;> rfl
  | cons x a ih =>
    cases b with
    | nil => rfl
    | cons y b =>
      have h := ih b
      simp only [Op.bytesLess, List.cons_beq_cons]
      by_cases e : x = y
      · subst e
        have : ¬ x < x := UInt8.lt_irrefl x
        simp only [this, decide_false, Bool.false_or, beq_self_eq_true, Bool.true_and]
        exact h
      · rcases UInt8.lt_or_lt_of_ne e with h1 | h1
        · have h2 : ¬ y < x := UInt8.lt_asymm h1
          have e' : ¬ y = x := fun h => e h.symm
          simp [h1, h2, e']
        · have h2 : ¬ x < y := UInt8.lt_asymm h1
          simp [h1, h2, e]
@[go_sem] theorem binOp_string_gtr_p (t : TypeId) (a b : ByteArray) : binOp .gtr t (.string a) (.string b) = pure (.bool (Op.bytesLess b.toList a.toList)) := by
  have : binOp .gtr t (.string a) (.string b) = pure (.bool !(Op.bytesLess a.toList b.toList || a.toList == b.toList)) := by simp [binOp, Op.stringOp]
  rw [this, bytesLess_flip]
@[go_sem] theorem binOp_string_geq_p (t : TypeId) (a b : ByteArray) : binOp .geq t (.string a) (.string b) = pure (.bool !(Op.bytesLess a.toList b.toList)) := by simp [binOp, Op.stringOp]
@[go_sem] theorem binOp_string_leq_p (t : TypeId) (a b : ByteArray) : binOp .leq t (.string a) (.string b) = pure (.bool !(Op.bytesLess b.toList a.toList)) := by
  have : binOp .leq t (.string a) (.string b) = pure (.bool (Op.bytesLess a.toList b.toList || a.toList == b.toList)) := by simp [binOp, Op.stringOp]
  rw [this, ← bytesLess_flip a.toList b.toList, Bool.not_not]
end Go.Mh
