/-
  BEING WITHIN IS AN ORDER: the plain law of PathsWithin, over the printed functions.
-/
import Derived.Test.YthllnfdbhfkflaaDoorPx3
set_option linter.unusedSimpArgs false
set_option linter.unusedVariables false
namespace Go.Mh
open Go.Lib
def withinL (a b : List UInt8) : Bool := okP a && okP b && (decide (a = b) || decide (b = [47]) || hasPrefix a (b ++ [47]))
theorem okP_root : okP [47] = true := by decide
theorem okP_nil : okP [] = false := by decide
theorem prefix_iff {a p : List UInt8} : hasPrefix a p = true ↔ p <+: a := by unfold hasPrefix; exact List.isPrefixOf_iff_prefix
theorem okP_head {a : List UInt8} (h : okP a = true) : ∃ r, a = 47 :: r := by
  unfold okP at h
  by_cases e : a = [47]
  · exact ⟨[], e⟩
  · simp only [e, decide_false, Bool.false_or] at h
    unfold okL at h
    split at h
    · exact ⟨_, rfl⟩
    · simp at h
theorem within_iff {a b : List UInt8} : withinL a b = true ↔ okP a = true ∧ okP b = true ∧ (a = b ∨ b = [47] ∨ (b ++ [47]) <+: a) := by
  unfold withinL
  rw [← prefix_iff]
  simp [Bool.and_eq_true, Bool.or_eq_true, and_assoc, or_assoc]
theorem within_trans {a b c : List UInt8} (h1 : withinL a b = true) (h2 : withinL b c = true) : withinL a c = true := by
  rw [within_iff] at *
  obtain ⟨ha, hb, h1⟩ := h1
  obtain ⟨_, hc, h2⟩ := h2
  refine ⟨ha, hc, ?_⟩
  rcases h2 with rfl | rfl | h2
  · exact h1
  · exact .inr (.inl rfl)
  · rcases h1 with rfl | rfl | h1
    · exact .inr (.inr h2)
    · have := h2.length_le
      simp at this
      subst this
      exact absurd hc (by decide)
    · right; right
      exact h2.trans ((List.prefix_append b [47]).trans h1)
theorem within_anti {a b : List UInt8} (h1 : withinL a b = true) (h2 : withinL b a = true) : a = b := by
  rw [within_iff] at *
  obtain ⟨ha, hb, h1⟩ := h1
  obtain ⟨_, _, h2⟩ := h2
  have na : a ≠ [] := fun e => by subst e; exact absurd ha (by decide)
  have nb : b ≠ [] := fun e => by subst e; exact absurd hb (by decide)
  rcases h1 with h1 | rfl | h1
  · exact h1
  · rcases h2 with h2 | h2 | h2
    · exact h2.symm
    · exact h2
    · have := h2.length_le; simp at this; exact absurd this na
  · rcases h2 with h2 | rfl | h2
    · exact h2.symm
    · have := h1.length_le; simp at this; exact absurd this nb
    · have l1 := h1.length_le; have l2 := h2.length_le; simp at l1 l2; omega
theorem within_refl (a : List UInt8) : withinL a a = okP a := by unfold withinL; simp
theorem within_root (a : List UInt8) : withinL a [47] = okP a := by unfold withinL; simp [okP_root]
theorem code_zero (b : Bool) : (code b = 0) = (b = true) := by cases b <;> simp [code]
theorem code_60 (b : Bool) : (code b = 60) = (b = false) := by cases b <;> simp [code]
end Go.Mh
namespace Go.Proofs.YthllnfdbhfkflaaDoor.P
open Go.RowKit Go.Lib Go.Mh Go.Proofs.YthllnfdbhfkflaaDoorW.PrintWords
theorem split_f (p : ByteArray) (h : p.size < 4294967281) : paths_Split.f p = some (partsP p, code (okP p.data.toList)) := by
  unfold paths_Split.f; rw [if_pos h, splitP_eq]
theorem check_f (p : ByteArray) (h : p.size < 4294967281) : paths_Check.f p = some (code (okP p.data.toList)) := by
  unfold paths_Check.f; rw [split_f p h]; rfl
theorem within_f (a b : ByteArray) (ha : a.size < 4294967281) (hb : b.size < 4294967281) : paths_Within.f a b = some (withinL a.data.toList b.data.toList) := by
  unfold paths_Within.f strings_HasPrefix.f
  rw [check_f a ha, check_f b hb]
  simp only [Option.bind_some, code_zero, Lib.toList_data]
  unfold withinL
  have e : (b ++ (⟨#[47]⟩ : ByteArray)).data.toList = b.data.toList ++ [47] := by simp
  rw [e]
  by_cases h1 : okP a.data.toList = true
  · by_cases h2 : okP b.data.toList = true
    · rw [if_pos h1, if_pos h2, h1, h2]
      by_cases h3 : a.data.toList = b.data.toList
      · rw [if_pos h3]; simp [h3]
      · rw [if_neg h3]
        by_cases h4 : b.data.toList = [47]
        · rw [if_pos h4]; simp [h4]
        · rw [if_neg h4, if_pos (by omega)]; simp [h3, h4]
    · rw [if_pos h1, if_neg h2]
      simp [Bool.eq_false_iff.2 h2]
  · rw [if_neg h1]
    simp [Bool.eq_false_iff.2 h1]
theorem speaks_f : mahoutlaw06_speaks.f = some true := by
  unfold mahoutlaw06_speaks.f
  rw [split_f _ (by decide), check_f _ (by decide)]
  simp only [Option.bind_some, Lib.toList_data]
  decide +kernel
theorem PathsWithin_1 (a b c : ByteArray) (ha : a.size < 4294967281) (hb : b.size < 4294967281) (hc : c.size < 4294967281) : mahoutlaw06_PathsWithin.f 1 a b c = some true := by
  have j0 : mahoutlaw06_PathsWithin.j0 1 a false = some true := by
    simp only [mahoutlaw06_PathsWithin.j0]
    rw [if_neg (by decide), within_f a a ha ha, check_f a ha, within_f a _ ha (by decide)]
    simp only [Option.bind_some, code_zero]
    rw [within_refl, within_root]
    cases okP a.data.toList <;> simp [code]
  unfold mahoutlaw06_PathsWithin.f
  rw [speaks_f, within_f a b ha hb, within_f b c hb hc, within_f a c ha hc, within_f b a hb ha]
  simp only [Option.bind_some, if_true]
  cases h1 : withinL a.data.toList b.data.toList
  · simp [j0]
  · cases h2 : withinL b.data.toList a.data.toList
    · cases h3 : withinL b.data.toList c.data.toList
      · simp [j0]
      · simp [within_trans h1 h3, j0]
    · have e := within_anti h1 h2
      have e' : (a.toList != b.toList) = false := by rw [Lib.toList_data, Lib.toList_data, e]; simp
      rw [e']
      cases h3 : withinL b.data.toList c.data.toList
      · simp [j0]
      · simp [within_trans h1 h3, j0]
theorem PathsWithin (a b c : ByteArray) (ha : a.size ≤ 1048576) (hb : b.size ≤ 1048576) (hc : c.size ≤ 1048576) : ∃ k, mahoutlaw06_PathsWithin.f k a b c = some true :=
  ⟨1, PathsWithin_1 a b c (by omega) (by omega) (by omega)⟩
end Go.Proofs.YthllnfdbhfkflaaDoor.P
