/-
  THE REFERENCE's Split, Join and the comparison of lists, told plainly.
-/
import Derived.Test.YthllnfdbhfkflaaDoorPx6
import Derived.Test.YthllnfdbhfkflaaDoorWithin
set_option linter.unusedSimpArgs false
set_option linter.unusedVariables false
namespace Go.Proofs.YthllnfdbhfkflaaDoor.P
open Go.RowKit Go.Lib Go.Mh Go.Proofs.YthllnfdbhfkflaaDoorW.PrintWords

theorem wrap_nat (i : Nat) (h : i < 4611686018427387904) : wrap64 ((i : Int) + 1) = ((i + 1 : Nat) : Int) := by unfold wrap64; omega

theorem rpart_l0 (s : ByteArray) (hn : s.size ≤ 1099511627776) (d : Nat) : ∀ (k i : Nat), i + d = s.size → d < k →
    mahoutref06_part.l0 k s (i : Int) = some ((s.data.toList.drop i).all okByte) := by
  induction d with
  | zero =>
    intro k i hd hk
    obtain ⟨k, rfl⟩ : ∃ m, k = m + 1 := ⟨k - 1, by omega⟩
    simp only [mahoutref06_part.l0]
    rw [if_neg (by omega), List.drop_of_length_le (by simp; omega)]; rfl
  | succ d ih =>
    intro k i hd hk
    obtain ⟨k, rfl⟩ : ∃ m, k = m + 1 := ⟨k - 1, by omega⟩
    have hi : i < s.size := by omega
    simp only [mahoutref06_part.l0]
    rw [if_pos (by omega), if_pos (by omega), bt_get s i hi, drop_at s i hi]
    simp only [List.all_cons]
    by_cases h1 : (s[i].toNat : Int) < 33
    · rw [if_pos h1]
      have : decide (33 ≤ s[i].toNat) = false := decide_eq_false (by omega)
      simp [okByte, this]
    · rw [if_neg h1]
      have e1 : decide (33 ≤ s[i].toNat) = true := decide_eq_true (by omega)
      by_cases h2 : (s[i].toNat : Int) > 126
      · rw [if_pos h2]
        have : decide (s[i].toNat ≤ 126) = false := decide_eq_false (by omega)
        simp [okByte, this]
      · rw [if_neg h2]
        have e2 : decide (s[i].toNat ≤ 126) = true := decide_eq_true (by omega)
        by_cases h3 : (s[i].toNat : Int) = 47
        · rw [if_pos h3]
          have : (s[i].toNat == 47) = true := beq_iff_eq.2 (by omega)
          simp [okByte, this]
        · rw [if_neg h3]
          have e3 : (s[i].toNat == 47) = false := beq_eq_false_iff_ne.2 (by omega)
          rw [wrap_nat i (by omega), ih k (i + 1) (by omega) (by omega)]
          simp [okByte, e1, e2, e3]
theorem rpart_f (s : ByteArray) (hn : s.size ≤ 1099511627776) (k : Nat) (hk : s.size + 3 ≤ k) : mahoutref06_part.f k s = some (partL s.data.toList) := by
  obtain ⟨k, rfl⟩ : ∃ m, k = m + 1 := ⟨k - 1, by omega⟩
  have hl := size_len s
  unfold mahoutref06_part.f
  simp only [mahoutref06_part.j0, Lib.toList_data, if_true]
  have h0 := rpart_l0 s hn s.size k 0 (by omega) (by omega)
  simp only [List.drop_zero] at h0
  have e0 : ((0 : Nat) : Int) = 0 := rfl
  rw [e0] at h0
  unfold partL
  by_cases h1 : (s.size : Int) < 1
  · rw [if_pos h1]
    have : s.data.toList = [] := List.eq_nil_of_length_eq_zero (by omega)
    simp [this]
  · rw [if_neg h1]
    have n1 : (s.data.toList == []) = false := beq_eq_false_iff_ne.2 (fun h => by rw [h, List.length_nil] at hl; omega)
    by_cases h2 : (s.size : Int) > 64
    · rw [if_pos h2]
      have : decide (s.data.toList.length ≤ 64) = false := decide_eq_false (by rw [← hl]; omega)
      simp only [this]; simp
    · rw [if_neg h2]
      have n2 : decide (s.data.toList.length ≤ 64) = true := decide_eq_true (by omega)
      by_cases h3 : s.data.toList = [46]
      · rw [if_pos h3]; simp [h3]
      · rw [if_neg h3]
        have n3 : (s.data.toList == [46]) = false := beq_eq_false_iff_ne.2 h3
        by_cases h4 : s.data.toList = [46, 46]
        · have : (s.data.toList == ([46, 46] : List UInt8)) = true := beq_iff_eq.2 h4
          rw [this, if_pos rfl]; simp
        · have n4 : (s.data.toList == ([46, 46] : List UInt8)) = false := beq_eq_false_iff_ne.2 h4
          rw [n4, if_neg (by decide), h0, n1, n2, n3]; simp

def fin (out : List ByteArray) (ps : List (List UInt8)) : List ByteArray × Bool :=
  if ps.all partL then (if 16 < out.length + ps.length then ([], false) else (out ++ ps.map mkB, true)) else ([], false)
theorem extract_mkB (p : ByteArray) (a b : Nat) : p.extract a b = mkB ((p.data.toList.drop a).take (b - a)) := by
  apply ba_ext
  rw [mkB_data]
  simp [ByteArray.data_extract, Array.toList_extract, List.extract_eq_take_drop]
theorem rsplit_l0 (p : ByteArray) (hn : p.size ≤ 1048576) (d : Nat) : ∀ (k i from_ : Nat) (out : List ByteArray), i + d = p.size + 1 → 2 * d + p.size + 9 ≤ k → out.length ≤ i →
    (d = 0 → mahoutref06_Split.l0 k p out (from_ : Int) (i : Int) = some (if 16 < out.length then ([], false) else (out, true))) ∧
    (0 < d → from_ ≤ i → (∀ j, from_ ≤ j → j < i → p.data.toList[j]? ≠ some 47) → mahoutref06_Split.l0 k p out (from_ : Int) (i : Int) = some (fin out (segs (p.data.toList.drop from_)))) := by
  have hl := size_len p
  induction d with
  | zero =>
    intro k i f out hd hk ho
    refine ⟨fun _ => ?_, fun h => absurd h (by omega)⟩
    obtain ⟨k, rfl⟩ : ∃ m, k = m + 1 := ⟨k - 1, by omega⟩
    simp only [mahoutref06_Split.l0]
    rw [if_neg (by omega)]
    by_cases h : 16 < out.length
    · rw [if_pos (by omega), if_pos h]
    · rw [if_neg (by omega), if_neg h]
  | succ d ih =>
    intro k i f out hd hk ho
    refine ⟨fun h => absurd h (by omega), fun _ hf hno => ?_⟩
    obtain ⟨k, rfl⟩ : ∃ m, k = m + 2 := ⟨k - 2, by omega⟩
    simp only [mahoutref06_Split.l0]
    rw [if_pos (by omega)]
    -- a piece ends at i
    have ends : (i = p.size ∨ p.data.toList[i]? = some 47) → mahoutref06_Split.j2 (k + 1) p out (f : Int) (i : Int) false = some (fin out (segs (p.data.toList.drop f))) := by
      intro he
      simp only [mahoutref06_Split.j2]
      rw [if_neg (by decide), if_pos (by omega), if_pos (by omega), if_pos (by omega)]
      have ef : ((f : Int)).toNat = f := by omega
      have ei : ((i : Int)).toNat = i := by omega
      rw [ef, ei, rpart_f _ (by rw [ByteArray.size_extract]; omega) k (by rw [ByteArray.size_extract]; omega), extract_mkB, mkB_data, wrap_nat i (by omega)]
      simp only [Option.bind_some]
      have hplain : ∀ b ∈ (p.data.toList.drop f).take (i - f), b ≠ 47 := by
        intro b hb
        obtain ⟨j, hj, rfl⟩ := List.mem_iff_getElem.1 hb
        simp at hj
        intro e
        refine hno (f + j) (by omega) (by omega) ?_
        rw [List.getElem?_eq_getElem (by omega)]
        simp at e
        rw [← e]
        simp
      have hseg : segs (p.data.toList.drop f) = (p.data.toList.drop f).take (i - f) :: (if i = p.size then [] else segs (p.data.toList.drop (i + 1))) := by
        by_cases h : i = p.size
        · rw [if_pos h, List.take_of_length_le (by simp; omega)]
          rw [List.take_of_length_le (by simp; omega)] at hplain
          exact segs_plain _ hplain
        · have h47 : p.data.toList[i]? = some 47 := he.resolve_left h
          rw [if_neg h]
          have hlt : i < p.data.toList.length := by omega
          have : p.data.toList.drop f = (p.data.toList.drop f).take (i - f) ++ 47 :: p.data.toList.drop (i + 1) := by
            conv => lhs; rw [← List.take_append_drop (i - f) (p.data.toList.drop f)]
            congr 1
            rw [List.drop_drop, show f + (i - f) = i by omega, List.drop_eq_getElem_cons hlt]
            congr 1
            rw [List.getElem?_eq_getElem hlt] at h47
            exact Option.some.inj h47
          conv => lhs; rw [this]
          exact segs_slash _ _ hplain
      rw [hseg]
      generalize (p.data.toList.drop f).take (i - f) = piece at hplain
      by_cases hp : partL piece = true
      · rw [if_pos hp, if_pos (by omega)]
        obtain ⟨g0, g1⟩ := ih k (i + 1) (i + 1) (out ++ [mkB piece]) (by omega) (by omega) (by simp; omega)
        by_cases h : i = p.size
        · rw [g0 (by omega), if_pos h]
          simp [fin, hp]
        · rw [g1 (by omega) (Nat.le_refl _) (fun j a b => absurd b (by omega)), if_neg h]
          unfold fin
          simp only [List.all_cons, hp, Bool.true_and, List.length_append, List.length_cons, List.length_nil, List.map_cons, List.append_assoc, List.cons_append, List.nil_append]
          rw [show out.length + (0 + 1) + (segs (p.data.toList.drop (i + 1))).length = out.length + ((segs (p.data.toList.drop (i + 1))).length + 1) by omega]
      · rw [if_neg hp]
        have : partL piece = false := by simpa using hp
        simp [fin, this]
    by_cases h1 : i < p.size
    · rw [if_pos (by omega), if_pos (by omega), bt_get p i h1]
      have hget : p.data.toList[i]? = some p[i] := by rw [List.getElem?_eq_getElem (by omega)]; rfl
      by_cases h2 : (p[i].toNat : Int) = 47
      · have : (((p[i].toNat : Nat) : Int) != 47) = false := by simp [h2]
        rw [this]
        refine ends (.inr ?_)
        rw [hget]
        congr 1
        exact UInt8.toNat_inj.1 (by simp; omega)
      · have : (((p[i].toNat : Nat) : Int) != 47) = true := by simp; omega
        rw [this]
        simp only [mahoutref06_Split.j2, if_true]
        rw [wrap_nat i (by omega)]
        refine (ih k (i + 1) f out (by omega) (by omega) (by omega)).2 (by omega) (by omega) (fun j a b => ?_)
        by_cases e : j = i
        · subst e
          rw [hget]
          intro h
          have := Option.some.inj h
          rw [this] at h2
          exact h2 rfl
        · exact hno j a (by omega)
    · rw [if_neg (by omega)]
      exact ends (.inl (by omega))
theorem rsplit_f (p : ByteArray) (hn : p.size ≤ 1048576) (k : Nat) (hk : 3 * p.size + 20 ≤ k) : mahoutref06_Split.f k p = some (partsP p, okP p.data.toList) := by
  have hl := size_len p
  obtain ⟨k, rfl⟩ : ∃ m, k = m + 1 := ⟨k - 1, by omega⟩
  unfold mahoutref06_Split.f
  simp only [mahoutref06_Split.j0, Lib.toList_data, if_true]
  unfold partsP partsL okP
  by_cases h0 : p.data.toList = [47]
  · rw [if_pos h0]; simp [h0]
  · rw [if_neg h0]
    by_cases h1 : p.data.toList = []
    · rw [if_pos h1]; simp [h1, okL]
    · rw [if_neg h1, if_neg h0]
      simp only [decide_eq_false h0, Bool.false_or]
      have hp : 0 < p.size := by
        rcases Nat.eq_zero_or_pos p.size with h | h
        · exact absurd (List.eq_nil_of_length_eq_zero (by omega)) h1
        · exact h
      have hb : bt p 0 = (p[0].toNat : Int) := bt_get p 0 hp
      rw [if_pos (by omega), hb]
      have hd := drop_at p 0 hp
      simp only [List.drop_zero, Nat.zero_add] at hd
      by_cases h2 : (p[0].toNat : Int) = 47
      · rw [if_pos h2]
        have e47 : p[0] = 47 := UInt8.toNat_inj.1 (by simp; omega)
        rw [e47] at hd
        by_cases h3 : 256 < p.size
        · have : decide ((p.size : Int) > 256) = true := decide_eq_true (by omega)
          rw [this, if_pos rfl]
          have h4 : decide (p.data.toList.length ≤ 256) = false := decide_eq_false (by omega)
          unfold okL
          rw [h4]; simp
        · have : decide ((p.size : Int) > 256) = false := decide_eq_false (by omega)
          rw [this, if_neg (by decide)]
          have g := (rsplit_l0 p hn p.size k 1 1 [] (by omega) (by omega) (by simp)).2 hp (Nat.le_refl _) (fun j a b => absurd b (by omega))
          have e1 : ((1 : Nat) : Int) = 1 := rfl
          rw [e1] at g
          rw [g]
          have h4 : decide (p.data.toList.length ≤ 256) = true := decide_eq_true (by omega)
          unfold okL
          rw [h4, hd]
          simp only [List.drop_succ_cons, List.drop_zero, List.tail_cons, Bool.and_true]
          unfold fin
          simp only [List.length_nil, Nat.zero_add, List.nil_append]
          cases (segs (p.data.toList.drop 1)).all partL
          · simp
          · by_cases h5 : 16 < (segs (p.data.toList.drop 1)).length
            · have : decide ((segs (p.data.toList.drop 1)).length ≤ 16) = false := decide_eq_false (by omega)
              have h5' : 16 < (segs p.data.toList.tail).length := by simpa using h5
              rw [this]; simp [h5']
            · have : decide ((segs (p.data.toList.drop 1)).length ≤ 16) = true := decide_eq_true (by omega)
              have h5' : (segs p.data.toList.tail).length ≤ 16 := by simpa using h5
              rw [this]; simp [h5']
      · rw [if_neg h2]
        have : okL p.data.toList = false := by
          unfold okL
          rw [hd]
          split
          · rename_i r h
            have := (List.cons.inj h).1
            rw [this] at h2
            exact absurd rfl h2
          · rfl
        rw [this]; simp
end Go.Proofs.YthllnfdbhfkflaaDoor.P
