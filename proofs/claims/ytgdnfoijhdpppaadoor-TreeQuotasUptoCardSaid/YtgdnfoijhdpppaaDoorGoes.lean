import Derived.KernelRfl
import Derived.Test.YtgdnfoijhdpppaaDoorProg
import GoSem.ClaimGoes
import GoSem.ClaimOpen
namespace Go.Proofs.YtgdnfoijhdpppaaDoor
theorem any_split {α : Type} (f : α → Bool) (n : Nat) (l : List α) (h1 : (l.take n).any f = false) (h2 : (l.drop n).any f = false) : l.any f = false := by
  rw [← List.take_append_drop n l, List.any_append, h1, h2]
  rfl

theorem goes_none {P : Program} (h : P.funcs.toList.any Func.goes = false) {c : OpenClaim} (hs : c.start = .entering) : false = c.goesBy P := by
  have hf : ∀ g : Nat, ((P.funcs[g]? : Option Func).any Func.goes) = false := by
    intro g
    cases hg : P.funcs[g]? with
    | none => rfl
    | some fn =>
      have hm : fn ∈ P.funcs.toList := by
        rw [← Array.getElem?_toList] at hg
        exact List.mem_of_getElem? hg
      have := List.any_eq_false.1 h fn hm
      simpa using this
  have ha : P.funcs.any Func.goes = false := by rw [← Array.any_toList]; exact h
  have key : ∀ f, P.goes f = false := by
    intro f
    unfold Program.goes
    rw [ha]
    simp only [Bool.and_false, Bool.or_false]
    rw [List.any_eq_false]
    intro g _
    simp [hf g]
  unfold OpenClaim.goesBy Program.goesAt Program.goesFrom
  rw [hs]
  cases hn : P.funcNamed c.func with
  | none => rfl
  | some f => simp [key f]


set_option maxRecDepth 100000
theorem goes0 : ((Tryd.prog.funcs.toList).take 40).any Func.goes = false := by kernel_rfl
theorem goes1 : (((Tryd.prog.funcs.toList.drop 40)).take 40).any Func.goes = false := by kernel_rfl
theorem goes2 : ((Tryd.prog.funcs.toList.drop 80)).any Func.goes = false := by kernel_rfl
theorem goes_all : Tryd.prog.funcs.toList.any Func.goes = false := (any_split _ 40 Tryd.prog.funcs.toList goes0 (any_split _ 40 (Tryd.prog.funcs.toList.drop 40) goes1 (by rw [List.drop_drop]; exact goes2)))
end Go.Proofs.YtgdnfoijhdpppaaDoor
