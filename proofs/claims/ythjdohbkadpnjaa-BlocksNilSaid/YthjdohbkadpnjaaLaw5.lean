/-
  BlocksNil is true of every input.
-/
import Derived.Test.YthjdohbkadpnjaaB6
namespace Go.Proofs.Ythjdohbkadpnjaa
open Go.Ab
set_option linter.unusedVariables false
set_option linter.unusedSimpArgs false
abbrev blocksInts : Ty := .slice (.int .i64)
abbrev blockTy : Ty := .cons (.int .i64) (.cons (.int .i64) (.cons (.int .i64) .nil))
abbrev question : Ty := .cons (.int .i64) (.cons (.int .i64) (.cons (.int .i64) (.cons (.int .i64) (.cons blockTy (.cons blocksInts (.cons (.slice blockTy) (.cons (.slice (.arr 2 (.int .i64))) .nil)))))))
set_option maxRecDepth 100000 in
theorem bare_no {P : Program} : ∀ k, k < P.globals.size → (AH.bare P).get k = none := fun k _ => by simp [AH.bare, AH.get, T.get]
theorem blocksNil_law (q : question.T) (w : question.WF q) : HF Try.prog 5 #[question.val q] (AH.bare Try.prog) fun v _ => v = .bool true := by
  refine HC.to_HF ?_
  obtain ⟨now, n, x, y, ⟨b1, b2, b3, u⟩, av, ne, fl, z⟩ := q
  have key := fun a b c => (B.nilLaw_ok (now := now) (n := n) (x := x) (y := y) (b1 := b1) (b2 := b2) (b3 := b3) (av := a) (ne := b) (fl := c) (h := AH.bare Try.prog) (Nat.le_refl _) bare_no).mono
    (R := fun r _ => ∃ v, r = .ret v ∧ v = .bool true) fun r _ e => ⟨_, e, rfl⟩
  cases av <;> cases ne <;> cases fl <;> exact key _ _ _
end Go.Proofs.Ythjdohbkadpnjaa
