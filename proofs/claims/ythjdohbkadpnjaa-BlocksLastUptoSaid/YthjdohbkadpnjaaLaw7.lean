/-
  BlocksLast is true of every input of bulk at most 1048576.
-/
import Derived.Test.YthjdohbkadpnjaaB8
namespace Go.Proofs.Ythjdohbkadpnjaa
open Go.Ab
set_option linter.unusedVariables false
set_option linter.unusedSimpArgs false
abbrev blkTy : Ty := .cons (.int .i64) (.cons (.int .i64) (.cons (.int .i64) .nil))
abbrev blksTy : Ty := .slice blkTy
def blkOfT (x : blkTy.T) : B.Blk := (x.1, x.2.1, x.2.2.1)
def blksOf : blksTy.T → List B.Blk
  | none => []
  | some l => l.map blkOfT
theorem blks_sl (x : blksTy.T) : Sl (blksTy.val x) ((blksOf x).map B.encB) := by
  cases x with
  | none => exact .nil
  | some l =>
    have e : (blksOf (some l)).map B.encB = l.map fun y => blkTy.one (blkTy.enc y) := by
      simp only [blksOf, List.map_map]
      exact List.map_congr_left fun y _ => rfl
    rw [e]
    exact .vs _
theorem sum_len {α : Type} (f : α → Nat) (hf : ∀ x, 1 ≤ f x) : ∀ l : List α, l.length ≤ (l.map f).sum := by
  intro l
  induction l with
  | nil => simp
  | cons a l ih => have := hf a; simp; omega
theorem blks_len (x : blksTy.T) : (blksOf x).length ≤ blksTy.bulk x := by
  cases x with
  | none => exact Nat.zero_le _
  | some l =>
    have := sum_len blkTy.bulk (fun y => Nat.le_add_right 1 _) l
    show (l.map blkOfT).length ≤ (l.map blkTy.bulk).sum + 1
    rw [List.length_map]
    omega
theorem bare_none {P : Program} : ∀ k, k < P.globals.size → (AH.bare P).get k = none := fun k _ => by simp [AH.bare, AH.get, T.get]
theorem blocksLast_law (x0 x1 : blksTy.T) (x2 : (Ty.arr 2 (.int .i64)).T) (w0 : blksTy.WF x0) (w1 : blksTy.WF x1) (w2 : (Ty.arr 2 (.int .i64)).WF x2) (hb : blksTy.bulk x0 + blksTy.bulk x1 + (Ty.arr 2 (.int .i64)).bulk x2 ≤ 1048576) :
    HF Try.prog 7 #[blksTy.val x0, blksTy.val x1, (Ty.arr 2 (.int .i64)).val x2] (AH.bare Try.prog) fun v _ => v = .bool true := by
  refine HC.to_HF ?_
  have l0 := blks_len x0
  have l1 := blks_len x1
  obtain ⟨hw, -⟩ := w2
  match x2, hw with
  | [a, b], _ =>
    exact (B.lastLaw_ok (now := a) (life := b) (h := AH.bare Try.prog) (Nat.le_refl _) bare_none (blks_sl x0) (blks_sl x1) (by omega) (by omega)).mono fun r _ e => ⟨_, e, rfl⟩
end Go.Proofs.Ythjdohbkadpnjaa
