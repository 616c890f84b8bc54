/-
  PATHS AND THEIR PARTS: joined and split again; the order of paths. Plain lists of bytes.
-/
import Derived.Test.YthllnfdbhfkflaaDoorPure
import Derived.Lib.Bytealg
import Derived.Lib.LastIndexByte
import GoSem.Op.String
set_option linter.unusedSimpArgs false
set_option linter.unusedVariables false
namespace Go.Mh
open Go.Lib

def flat (ps : List (List UInt8)) : List UInt8 := ps.flatMap (47 :: ·)
def joinL (ps : List (List UInt8)) : List UInt8 := if ps = [] then [47] else flat ps
def validL (ps : List (List UInt8)) : Bool := ps.all partL && decide (ps.length ≤ 16) && decide ((flat ps).length ≤ 256)
theorem flat_nil : flat [] = [] := rfl
theorem flat_cons (p : List UInt8) (ps : List (List UInt8)) : flat (p :: ps) = 47 :: (p ++ flat ps) := by simp [flat]
theorem flat_append (ps qs : List (List UInt8)) : flat (ps ++ qs) = flat ps ++ flat qs := by simp [flat]
theorem part_plain {p : List UInt8} (h : partL p = true) : ∀ b ∈ p, b ≠ 47 := by
  intro b hb e
  subst e
  unfold partL at h
  simp only [Bool.and_eq_true] at h
  have := List.all_eq_true.1 h.1.1.1.1 _ hb
  exact absurd this (by decide)
theorem part_ne {p : List UInt8} (h : partL p = true) : p ≠ [] := by
  intro e; subst e; exact absurd h (by decide)
theorem segs_flat (ps : List (List UInt8)) : ∀ p, (∀ b ∈ p, b ≠ 47) → (∀ q ∈ ps, ∀ b ∈ q, b ≠ 47) → segs (p ++ flat ps) = p :: ps := by
  induction ps with
  | nil => intro p hp _; rw [flat_nil, List.append_nil]; exact segs_plain p hp
  | cons q ps ih =>
    intro p hp hq
    rw [flat_cons, segs_slash p _ hp, ih q (hq q (by simp)) (fun x hx => hq x (by simp [hx]))]
theorem segs_join (l : List UInt8) : ∃ p ps, segs l = p :: ps ∧ p ++ flat ps = l := by
  induction l with
  | nil => exact ⟨[], [], rfl, rfl⟩
  | cons b l ih =>
    obtain ⟨p, ps, h1, h2⟩ := ih
    by_cases e : b = 47
    · subst e
      refine ⟨[], p :: ps, by rw [segs, if_pos rfl, h1], ?_⟩
      rw [flat_cons, h2]; rfl
    · refine ⟨b :: p, ps, by rw [segs, if_neg e, h1], ?_⟩
      rw [List.cons_append, h2]
theorem segs_append (x t : List UInt8) : segs (x ++ 47 :: t) = segs x ++ segs t := by
  induction x with
  | nil => simp [segs]
  | cons b x ih =>
    by_cases e : b = 47
    · subst e; simp [segs, ih]
    · obtain ⟨p, ps, h1, h2⟩ := segs_join x
      rw [List.cons_append, segs, if_neg e, ih, h1]
      rw [segs, if_neg e, h1]; rfl
theorem okL_iff {l : List UInt8} : okL l = true ↔ ∃ ps, ps ≠ [] ∧ validL ps = true ∧ l = flat ps := by
  constructor
  · intro h
    unfold okL at h
    rw [Bool.and_eq_true] at h
    obtain ⟨h, hl⟩ := h
    split at h
    · rename_i r
      rw [Bool.and_eq_true] at h
      obtain ⟨p, ps, h1, h2⟩ := segs_join r
      refine ⟨p :: ps, by simp, ?_, ?_⟩
      · unfold validL
        rw [← h1, h.1, h.2, h1, flat_cons, h2]
        simpa using hl
      · rw [flat_cons, h2]
    · simp at h
  · rintro ⟨ps, hne, hv, rfl⟩
    cases ps with
    | nil => exact absurd rfl hne
    | cons p ps =>
      unfold validL at hv
      simp only [Bool.and_eq_true] at hv
      obtain ⟨⟨h1, h2⟩, h3⟩ := hv
      have hs : segs (p ++ flat ps) = p :: ps := by
        have ha := List.all_eq_true.1 h1
        exact segs_flat ps p (part_plain (ha p (by simp))) (fun q hq => part_plain (ha q (by simp [hq])))
      unfold okL
      rw [h3, flat_cons]
      simp only [hs, h1, h2]
      rfl
theorem parts_flat {ps : List (List UInt8)} (h : validL ps = true) (hne : ps ≠ []) : okL (flat ps) = true ∧ partsL (flat ps) = ps ∧ flat ps ≠ [47] := by
  have ho : okL (flat ps) = true := okL_iff.2 ⟨ps, hne, h, rfl⟩
  have hr : flat ps ≠ [47] := fun e => by rw [e] at ho; exact absurd ho (by decide)
  refine ⟨ho, ?_, hr⟩
  unfold partsL
  rw [if_neg hr, if_pos ho]
  cases ps with
  | nil => exact absurd rfl hne
  | cons p ps =>
    unfold validL at h
    simp only [Bool.and_eq_true] at h
    have ha := List.all_eq_true.1 h.1.1
    rw [flat_cons, List.tail_cons]
    exact segs_flat ps p (part_plain (ha p (by simp))) (fun q hq => part_plain (ha q (by simp [hq])))
theorem ok_join {ps : List (List UInt8)} (h : validL ps = true) : okP (joinL ps) = true ∧ partsL (joinL ps) = ps := by
  unfold joinL
  by_cases e : ps = []
  · subst e; exact ⟨by decide, by decide⟩
  · rw [if_neg e]
    obtain ⟨h1, h2, h3⟩ := parts_flat h e
    exact ⟨by unfold okP; rw [h1]; simp, h2⟩
theorem join_ok {l : List UInt8} (h : okP l = true) : validL (partsL l) = true ∧ joinL (partsL l) = l := by
  unfold okP at h
  by_cases e : l = [47]
  · subst e; exact ⟨by decide, by decide⟩
  · rw [decide_eq_false e, Bool.false_or] at h
    obtain ⟨ps, hne, hv, rfl⟩ := okL_iff.1 h
    obtain ⟨h1, h2, h3⟩ := parts_flat hv hne
    rw [h2]
    exact ⟨hv, by unfold joinL; rw [if_neg hne]⟩
theorem parts_bad {l : List UInt8} (h : okP l = false) : partsL l = [] := by
  unfold okP at h
  simp only [Bool.or_eq_false_iff, decide_eq_false_iff_not] at h
  unfold partsL
  rw [if_neg h.1, h.2]; rfl
theorem parts_nil {l : List UInt8} (h : okP l = true) : partsL l = [] ↔ l = [47] := by
  constructor
  · intro e
    have := (join_ok h).2
    rw [e] at this
    exact this.symm
  · intro e; subst e; decide
theorem parts_inj {a b : List UInt8} (ha : okP a = true) (hb : okP b = true) (h : partsL a = partsL b) : a = b := by
  rw [← (join_ok ha).2, ← (join_ok hb).2, h]
theorem valid_prefix {ps qs : List (List UInt8)} (h : validL (ps ++ qs) = true) : validL ps = true := by
  unfold validL at *
  rw [flat_append] at h
  simp only [List.all_append, Bool.and_eq_true, decide_eq_true_eq, List.length_append] at *
  exact ⟨⟨h.1.1.1, by omega⟩, by omega⟩

/-! ### The last part -/
theorem lastIndex_at (s : ByteArray) (x y : List UInt8) (h : s.data.toList = x ++ 47 :: y) (hy : ∀ b ∈ y, b ≠ 47) : lastIndexByte s 47 = x.length := by
  have hs := size_len s
  rw [h] at hs
  simp at hs
  have hget : ∀ j, j < s.size → s.data[j]! = (x ++ 47 :: y)[j]! := by
    intro j hj
    rw [← h, getElem!_pos s.data j hj, getElem!_pos s.data.toList j (by rw [← size_len]; exact hj)]
    simp
  rcases lastIndexByte_spec s 47 with ⟨h1, h2⟩ | ⟨i, hi, h1, h2, h3⟩
  · have := h2 x.length (by omega)
    rw [hget _ (by omega)] at this
    simp at this
  · rw [h1]
    rcases Nat.lt_trichotomy i x.length with hlt | heq | hgt
    · have := h3 x.length hlt (by omega)
      rw [hget _ (by omega)] at this
      simp at this
    · rw [heq]
    · exfalso
      rw [hget _ hi] at h2
      have hlen : i < (x ++ 47 :: y).length := by rw [← h, ← size_len]; exact hi
      rw [getElem!_pos _ i hlen, List.getElem_append_right (by omega)] at h2
      obtain ⟨m, hm⟩ : ∃ m, i - x.length = m + 1 := ⟨i - x.length - 1, by omega⟩
      have hm' : m < y.length := by simp at hlen; omega
      have e : (47 :: y)[i - x.length]'(by simp; omega) = y[m] := by simp [hm]
      rw [e] at h2
      refine hy y[m] (List.getElem_mem hm') (UInt8.toNat_inj.1 ?_)
      simp; omega

/-! ### The order -/
structure Good {α : Type} (c : α → α → Int) : Prop where
  rng : ∀ a b, c a b = -1 ∨ c a b = 0 ∨ c a b = 1
  flip : ∀ a b, c a b = -c b a
  zero : ∀ a b, c a b = 0 ↔ a = b
  trans : ∀ a b d, c a b ≤ 0 → c b d ≤ 0 → c a d ≤ 0
def lexC {α : Type} (c : α → α → Int) : List α → List α → Int
  | [], [] => 0
  | [], _ :: _ => -1
  | _ :: _, [] => 1
  | a :: x, b :: y => if c a b = 0 then lexC c x y else c a b
theorem lex_good {α : Type} {c : α → α → Int} (g : Good c) : Good (lexC c) where
  rng := by
    intro a
    induction a with
    | nil => intro b; cases b <;> simp [lexC]
    | cons x a ih =>
      intro b
      cases b with
      | nil => simp [lexC]
      | cons y b =>
        simp only [lexC]
        split
        · exact ih b
        · exact g.rng x y
  flip := by
    intro a
    induction a with
    | nil => intro b; cases b <;> simp [lexC]
    | cons x a ih =>
      intro b
      cases b with
      | nil => simp [lexC]
      | cons y b =>
        simp only [lexC]
        have := g.flip x y
        by_cases h : c x y = 0
        · rw [if_pos h, if_pos (by omega)]; exact ih b
        · rw [if_neg h, if_neg (by omega)]; exact this
  zero := by
    intro a
    induction a with
    | nil => intro b; cases b <;> simp [lexC]
    | cons x a ih =>
      intro b
      cases b with
      | nil => simp [lexC]
      | cons y b =>
        simp only [lexC]
        by_cases h : c x y = 0
        · rw [if_pos h, ih b, (g.zero x y).1 h]; simp
        · rw [if_neg h]
          constructor
          · intro h'; exact absurd h' h
          · intro h'; exact absurd ((g.zero x y).2 (List.cons.inj h').1) h
  trans := by
    intro a
    induction a with
    | nil =>
      intro b d _ _
      cases d <;> simp [lexC]
    | cons x a ih =>
      intro b d h1 h2
      cases b with
      | nil => simp [lexC] at h1
      | cons y b =>
        cases d with
        | nil => simp [lexC] at h2
        | cons z d =>
          simp only [lexC] at *
          by_cases e1 : c x y = 0
          · rw [if_pos e1] at h1
            have exy := (g.zero x y).1 e1
            subst exy
            by_cases e2 : c x z = 0
            · rw [if_pos e2] at h2 ⊢
              exact ih b d h1 h2
            · rw [if_neg e2] at h2 ⊢
              exact h2
          · rw [if_neg e1] at h1
            by_cases e2 : c y z = 0
            · have eyz := (g.zero y z).1 e2
              subst eyz
              rw [if_neg e1]; exact h1
            · rw [if_neg e2] at h2
              have h3 := g.trans x y z h1 h2
              by_cases e3 : c x z = 0
              · have exz := (g.zero x z).1 e3
                subst exz
                have := g.flip x y
                omega
              · rw [if_neg e3]; exact h3
theorem lex_prefix {α : Type} {c : α → α → Int} (g : Good c) (a b : List α) : 0 ≤ lexC c (a ++ b) a := by
  induction a with
  | nil => cases b <;> simp [lexC]
  | cons x a ih =>
    simp only [List.cons_append, lexC]
    rw [if_pos ((g.zero x x).2 rfl)]; exact ih
def byteC (a b : UInt8) : Int := if a < b then -1 else if b < a then 1 else 0
theorem byte_good : Good byteC where
  rng := by intro a b; unfold byteC; split; · simp
            split <;> simp
  flip := by
    intro a b; unfold byteC
    by_cases h : a < b
    · have : ¬ b < a := UInt8.lt_asymm h
      simp [h, this]
    · by_cases h2 : b < a <;> simp [h, h2]
  zero := by
    intro a b; unfold byteC
    by_cases h : a < b
    · have : a ≠ b := fun e => by subst e; exact UInt8.lt_irrefl _ h
      simp [h, this]
    · by_cases h2 : b < a
      · have : a ≠ b := fun e => by subst e; exact UInt8.lt_irrefl _ h2
        simp [h, h2, this]
      · have : a = b := by
          rw [UInt8.lt_iff_toNat_lt] at h h2
          exact UInt8.toNat_inj.1 (by omega)
        simp [h, h2, this]
  trans := by
    intro a b d; unfold byteC
    simp only [UInt8.lt_iff_toNat_lt]
    intro h1 h2
    by_cases e1 : d.toNat < a.toNat
    · exfalso
      by_cases f1 : a.toNat < b.toNat
      · rw [if_neg (by omega), if_pos (by omega)] at h2; omega
      · rw [if_neg f1] at h1
        by_cases f2 : b.toNat < a.toNat
        · rw [if_pos f2] at h1; omega
        · rw [if_neg (by omega), if_pos (by omega)] at h2; omega
    · by_cases e2 : a.toNat < d.toNat
      · rw [if_pos e2]; omega
      · rw [if_neg e2, if_neg e1]; omega
theorem compare_lex (a b : List UInt8) : compareBytes a b = lexC byteC a b := by
  induction a generalizing b with
  | nil => cases b <;> rfl
  | cons x a ih =>
    cases b with
    | nil => rfl
    | cons y b =>
      simp only [compareBytes, lexC, byteC]
      by_cases h : x < y
      · simp [h]
      · by_cases h2 : y < x
        · simp [h, h2]
        · simp [h, h2, ih]
def cmpB : List UInt8 → List UInt8 → Int := lexC byteC
theorem cmpB_good : Good cmpB := lex_good byte_good
theorem less_iff (a b : List UInt8) : Op.bytesLess a b = decide (cmpB a b = -1) := by
  unfold cmpB
  induction a generalizing b with
  | nil => cases b <;> rfl
  | cons x a ih =>
    cases b with
    | nil => rfl
    | cons y b =>
      simp only [Op.bytesLess, lexC, byteC, ih]
      by_cases h : x < y
      · simp [h]
      · by_cases h2 : y < x
        · have e : ¬ x = y := fun e => by subst e; exact UInt8.lt_irrefl _ h2
          simp [h, h2, e]
        · have e : x = y := by
            rw [UInt8.lt_iff_toNat_lt] at h h2
            exact UInt8.toNat_inj.1 (by omega)
          simp [h, h2, e]
def cmpParts : List (List UInt8) → List (List UInt8) → Int := lexC cmpB
theorem cmpParts_good : Good cmpParts := lex_good cmpB_good
/-- Which of two texts stands ahead. -/
def cmpP (a b : List UInt8) : Int :=
  if okP a then (if okP b then cmpParts (partsL a) (partsL b) else -1) else if okP b then 1 else cmpB a b
theorem cmpP_good : Good cmpP where
  rng := by
    intro a b; unfold cmpP
    split
    · split
      · exact cmpParts_good.rng _ _
      · simp
    · split
      · simp
      · exact cmpB_good.rng _ _
  flip := by
    intro a b; unfold cmpP
    cases okP a <;> cases okP b <;> simp
    · exact cmpB_good.flip _ _
    · exact cmpParts_good.flip _ _
  zero := by
    intro a b; unfold cmpP
    cases ha : okP a <;> cases hb : okP b <;> simp
    · exact cmpB_good.zero _ _
    · intro e; rw [e, hb] at ha; exact absurd ha (by decide)
    · intro e; rw [e, hb] at ha; exact absurd ha (by decide)
    · rw [cmpParts_good.zero]
      exact ⟨fun h => parts_inj ha hb h, fun h => by rw [h]⟩
  trans := by
    intro a b d; unfold cmpP
    cases okP a <;> cases okP b <;> cases okP d <;> simp
    · exact cmpB_good.trans _ _ _
    · exact cmpParts_good.trans _ _ _
end Go.Mh
