/-
  THE ORDER OF PATHS: paths.Compare, the reference's Compare and Within over the printed functions; the plain law of PathsOrder.
-/
import Derived.Test.YthllnfdbhfkflaaDoorPx9
import Derived.Test.YthllnfdbhfkflaaDoorPx10
import Derived.Test.YthllnfdbhfkflaaDoorUp
set_option linter.unusedSimpArgs false
set_option linter.unusedVariables false
namespace Go.Proofs.YthllnfdbhfkflaaDoor.P
open Go.RowKit Go.Lib Go.Mh Go.Proofs.YthllnfdbhfkflaaDoorW.PrintWords Go.Proofs.YthllnfdbhfkflaaDoorW.PrintMore

theorem less_cmp (a b : ByteArray) : (Op.bytesLess a.toList b.toList = true) = (cmpB a.data.toList b.data.toList = -1) := by
  rw [Lib.toList_data, Lib.toList_data, less_iff]; simp
theorem less_cmp' (a b : ByteArray) : (Op.bytesLess b.toList a.toList = true) = (cmpB a.data.toList b.data.toList = 1) := by
  rw [less_cmp b a, cmpB_good.flip b.data.toList a.data.toList]
  apply propext; omega
theorem cmp_f (a b : ByteArray) : cmp_Compare_string.f a b = some (cmpB a.data.toList b.data.toList) := by
  unfold cmp_Compare_string.f cmp_isNaN_string.f
  have e1 : (a.toList != a.toList) = false := by simp
  have e2 : (b.toList != b.toList) = false := by simp
  rw [e1, e2]
  simp only [Option.bind_some]
  rw [if_neg (by decide), if_neg (by decide)]
  simp only [less_cmp a b, less_cmp' a b]
  rcases cmpB_good.rng a.data.toList b.data.toList with h | h | h
  · rw [h]; rfl
  · rw [h]; rfl
  · rw [h]; rfl
theorem slices_l0 (a b : List ByteArray) (hn : a.length ≤ 1048576) (d : Nat) : ∀ k i : Nat, i + d = a.length → i ≤ b.length → d < k →
    slices_Compare_string_string.l0 k a b a (a.length : Int) (i : Int) = some (cmpParts ((datas a).drop i) ((datas b).drop i)) := by
  have ha : (datas a).length = a.length := by simp [datas]
  have hb : (datas b).length = b.length := by simp [datas]
  induction d with
  | zero =>
    intro k i hd hi hk
    obtain ⟨k, rfl⟩ : ∃ m, k = m + 1 := ⟨k - 1, by omega⟩
    simp only [slices_Compare_string_string.l0]
    rw [if_neg (by omega), List.drop_of_length_le (l := datas a) (by omega)]
    by_cases h : a.length < b.length
    · rw [if_pos (by omega), drop_cons (datas b) i (by omega)]; rfl
    · rw [if_neg (by omega), List.drop_of_length_le (by omega)]; rfl
  | succ d ih =>
    intro k i hd hi hk
    obtain ⟨k, rfl⟩ : ∃ m, k = m + 1 := ⟨k - 1, by omega⟩
    simp only [slices_Compare_string_string.l0]
    rw [if_pos (by omega), if_pos (by omega), if_pos (by omega), drop_cons (datas a) i (by omega)]
    by_cases h : i < b.length
    · rw [if_neg (by omega), if_pos (by omega), rd_nat a i (by omega), rd_nat b i h, cmp_f, drop_cons (datas b) i (by omega)]
      simp only [Option.bind_some, cmpParts, lexC]
      have e1 : (datas a)[i]'(by omega) = a[i].data.toList := by simp [datas]
      have e2 : (datas b)[i]'(by omega) = b[i].data.toList := by simp [datas]
      rw [e1, e2]
      by_cases h0 : cmpB a[i].data.toList b[i].data.toList = 0
      · rw [if_pos h0, if_pos h0, wrap_nat i (by omega)]
        exact ih k (i + 1) (by omega) (by omega) (by omega)
      · rw [if_neg h0, if_neg h0]
    · rw [if_pos (by omega), List.drop_of_length_le (l := datas b) (by omega)]; rfl
theorem datas_parts (p : ByteArray) : datas (partsP p) = partsL p.data.toList := by unfold partsP; exact datas_mkB _
theorem compare_f (a b : ByteArray) (ha : a.size ≤ 1048576) (hb : b.size ≤ 1048576) (k : Nat) (hk : 100 ≤ k) : paths_Compare.f k a b = some (cmpP a.data.toList b.data.toList) := by
  obtain ⟨k, rfl⟩ : ∃ m, k = m + 1 := ⟨k - 1, by omega⟩
  have hpa := parts_short a.data.toList
  have la : (partsP a).length = (partsL a.data.toList).length := by unfold partsP; simp
  unfold paths_Compare.f
  rw [split_f a (by omega), split_f b (by omega)]
  simp only [Option.bind_some, paths_Compare.j0, code_zero]
  unfold cmpP slices_Compare_string_string.f strings_Compare.f
  have g := slices_l0 (partsP a) (partsP b) (by omega) (partsP a).length k 0 (by omega) (by omega) (by omega)
  have e0 : ((0 : Nat) : Int) = 0 := rfl
  rw [e0, datas_parts, datas_parts] at g
  simp only [List.drop_zero] at g
  rw [g, compare_lex]
  have : lexC byteC a.data.toList b.data.toList = cmpB a.data.toList b.data.toList := rfl
  rw [this]
  cases okP a.data.toList <;> cases okP b.data.toList <;> simp [code]
theorem rcompare_l0 (a b : List ByteArray) (ha : a.length ≤ 1048576) (d : Nat) : ∀ k i : Nat, i + d = a.length → i ≤ b.length → 2 * d + 3 < k →
    mahoutref06_Compare.l0 k a b (i : Int) = some (cmpParts ((datas a).drop i) ((datas b).drop i)) := by
  have la : (datas a).length = a.length := by simp [datas]
  have lb : (datas b).length = b.length := by simp [datas]
  induction d with
  | zero =>
    intro k i hd hi hk
    obtain ⟨k, rfl⟩ : ∃ m, k = m + 2 := ⟨k - 2, by omega⟩
    simp only [mahoutref06_Compare.l0, mahoutref06_Compare.j3]
    rw [if_neg (by omega), List.drop_of_length_le (l := datas a) (by omega)]
    by_cases h : i < b.length
    · have : decide ((i : Int) < (b.length : Int)) = true := decide_eq_true (by omega)
      rw [this, if_pos rfl, if_pos (by omega), drop_cons (datas b) i (by omega)]; rfl
    · have : decide ((i : Int) < (b.length : Int)) = false := decide_eq_false (by omega)
      rw [this, if_neg (by decide), List.drop_of_length_le (by omega)]; rfl
  | succ d ih =>
    intro k i hd hi hk
    obtain ⟨k, rfl⟩ : ∃ m, k = m + 2 := ⟨k - 2, by omega⟩
    simp only [mahoutref06_Compare.l0, mahoutref06_Compare.j3]
    rw [if_pos (by omega)]
    simp only [if_true]
    rw [if_neg (by omega), drop_cons (datas a) i (by omega)]
    by_cases h : i < b.length
    · rw [if_neg (by omega), if_pos (by omega), if_pos (by omega), if_pos (by omega), rd_nat a i (by omega), rd_nat b i h, drop_cons (datas b) i (by omega)]
      simp only [cmpParts, lexC, less_cmp a[i] b[i], less_cmp' a[i] b[i]]
      have e1 : (datas a)[i]'(by omega) = a[i].data.toList := by simp [datas]
      have e2 : (datas b)[i]'(by omega) = b[i].data.toList := by simp [datas]
      rw [e1, e2]
      rcases cmpB_good.rng a[i].data.toList b[i].data.toList with h0 | h0 | h0
      · rw [h0]; rfl
      · rw [h0, if_neg (by decide), if_neg (by decide), if_pos rfl, wrap_nat i (by omega)]
        exact ih k (i + 1) (by omega) (by omega) (by omega)
      · rw [h0]; rfl
    · rw [if_pos (by omega), List.drop_of_length_le (l := datas b) (by omega)]; rfl
theorem rcompare_f (a b : ByteArray) (ha : a.size ≤ 1048576) (hb : b.size ≤ 1048576) (k : Nat) (hk : 4000000 ≤ k) : mahoutref06_Compare.f k a b = some (cmpP a.data.toList b.data.toList) := by
  obtain ⟨k, rfl⟩ : ∃ m, k = m + 2 := ⟨k - 2, by omega⟩
  have hpa := parts_short a.data.toList
  have la : (partsP a).length = (partsL a.data.toList).length := by unfold partsP; simp
  unfold mahoutref06_Compare.f
  rw [rsplit_f a ha _ (by omega), rsplit_f b hb _ (by omega)]
  simp only [Option.bind_some, mahoutref06_Compare.j0, mahoutref06_Compare.j1]
  have e0 : ((0 : Nat) : Int) = 0 := rfl
  have g := rcompare_l0 (partsP a) (partsP b) (by omega) (partsP a).length k 0 (by omega) (by omega) (by omega)
  rw [e0, datas_parts, datas_parts] at g
  simp only [List.drop_zero] at g
  have g2 := rcompare_l0 [a] [b] (by simp) 1 k 0 (by simp) (by omega) (by omega)
  rw [e0] at g2
  have e3 : cmpParts ((datas [a]).drop 0) ((datas [b]).drop 0) = cmpB a.data.toList b.data.toList := by
    show (if cmpB a.data.toList b.data.toList = 0 then (0 : Int) else _) = _
    split
    · rename_i h; exact h.symm
    · rfl
  rw [e3] at g2
  unfold cmpP
  rw [g, g2]
  cases okP a.data.toList <;> cases okP b.data.toList <;> simp
theorem rwithin_l0 (a b : List ByteArray) (ha : b.length ≤ 1048576) (hl : b.length ≤ a.length) (d : Nat) : ∀ k i : Nat, i + d = b.length → d < k →
    mahoutref06_Within.l0 k a b (i : Int) = some (decide ((datas b).drop i <+: (datas a).drop i)) := by
  have la : (datas a).length = a.length := by simp [datas]
  have lb : (datas b).length = b.length := by simp [datas]
  induction d with
  | zero =>
    intro k i hd hk
    obtain ⟨k, rfl⟩ : ∃ m, k = m + 1 := ⟨k - 1, by omega⟩
    simp only [mahoutref06_Within.l0]
    rw [if_neg (by omega), List.drop_of_length_le (l := datas b) (by omega), decide_eq_true (List.nil_prefix)]
  | succ d ih =>
    intro k i hd hk
    obtain ⟨k, rfl⟩ : ∃ m, k = m + 1 := ⟨k - 1, by omega⟩
    simp only [mahoutref06_Within.l0]
    rw [if_pos (by omega), if_pos (by omega), if_pos (by omega), rd_nat a i (by omega), rd_nat b i (by omega), Lib.toList_data, Lib.toList_data, drop_cons (datas a) i (by omega), drop_cons (datas b) i (by omega)]
    have e1 : (datas a)[i]'(by omega) = a[i].data.toList := by simp [datas]
    have e2 : (datas b)[i]'(by omega) = b[i].data.toList := by simp [datas]
    rw [e1, e2]
    by_cases h : a[i].data.toList = b[i].data.toList
    · rw [if_pos h, wrap_nat i (by omega), ih k (i + 1) (by omega) (by omega)]
      congr 1
      exact decide_eq_decide.2 (by rw [List.cons_prefix_cons, h]; simp)
    · rw [if_neg h, decide_eq_false (fun e => h (List.cons_prefix_cons.1 e).1.symm)]
theorem flat_head (ps : List (List UInt8)) : ps = [] ∨ ∃ t, flat ps = 47 :: t := by
  cases ps with
  | nil => exact .inl rfl
  | cons p ps => exact .inr ⟨_, flat_cons p ps⟩
theorem within_parts {a b : List UInt8} (ha : okP a = true) (hb : okP b = true) : withinL a b = true ↔ partsL b <+: partsL a := by
  rw [Go.Mh.within_iff]
  constructor
  · rintro ⟨_, _, h | h | h⟩
    · rw [h]; exact List.prefix_rfl
    · rw [(parts_nil hb).2 h]; exact List.nil_prefix
    · obtain ⟨t, ht⟩ := h
      have hna : a ≠ [47] := by
        intro e
        obtain ⟨r, hr⟩ := okP_head hb
        rw [e, hr] at ht
        simp at ht
      have hoa : okL a = true := by
        unfold okP at ha; simpa [hna] using ha
      by_cases hb0 : b = [47]
      · rw [(parts_nil hb).2 hb0]; exact List.nil_prefix
      · have hob : okL b = true := by unfold okP at hb; simpa [hb0] using hb
        obtain ⟨r, hr⟩ := okP_head hb
        have e1 : partsL b = segs r := by unfold partsL; rw [if_neg hb0, if_pos hob, hr]; rfl
        have e2 : partsL a = segs (r ++ 47 :: t) := by
          unfold partsL; rw [if_neg hna, if_pos hoa, ← ht, hr]; simp
        rw [e1, e2, segs_append]
        exact List.prefix_append _ _
  · intro h
    refine ⟨ha, hb, ?_⟩
    obtain ⟨q, hq⟩ := h
    have ja := (join_ok ha).2
    have jb := (join_ok hb).2
    rw [← hq] at ja
    by_cases hb0 : partsL b = []
    · exact .inr (.inl ((parts_nil hb).1 hb0))
    · unfold joinL at ja jb
      rw [if_neg (by simp [hb0]), flat_append] at ja
      rw [if_neg hb0] at jb
      rw [jb] at ja
      rcases flat_head q with e | ⟨t, ht⟩
      · left
        rw [e, flat_nil, List.append_nil] at ja
        exact ja.symm
      · right; right
        rw [ht] at ja
        exact ⟨t, by rw [← ja]; simp⟩
theorem rwithin_f (a b : ByteArray) (ha : a.size ≤ 1048576) (hb : b.size ≤ 1048576) (k : Nat) (hk : 4000000 ≤ k) : mahoutref06_Within.f k a b = some (withinL a.data.toList b.data.toList) := by
  obtain ⟨k, rfl⟩ : ∃ m, k = m + 1 := ⟨k - 1, by omega⟩
  have hpb := parts_short b.data.toList
  have la : (partsP a).length = (partsL a.data.toList).length := by unfold partsP; simp
  have lb : (partsP b).length = (partsL b.data.toList).length := by unfold partsP; simp
  unfold mahoutref06_Within.f
  rw [rsplit_f a ha _ (by omega), rsplit_f b hb _ (by omega)]
  simp only [Option.bind_some, mahoutref06_Within.j0]
  by_cases h1 : okP a.data.toList = true
  · by_cases h2 : okP b.data.toList = true
    · rw [if_pos h1, if_pos h2]
      by_cases h3 : (partsP a).length < (partsP b).length
      · have : decide (((partsP b).length : Int) > ((partsP a).length : Int)) = true := decide_eq_true (by omega)
        rw [this, if_pos rfl]
        cases hw : withinL a.data.toList b.data.toList with
        | false => rfl
        | true =>
          have := ((within_parts h1 h2).1 hw).length_le
          omega
      · have : decide (((partsP b).length : Int) > ((partsP a).length : Int)) = false := decide_eq_false (by omega)
        rw [this, if_neg (by decide)]
        have g := rwithin_l0 (partsP a) (partsP b) (by omega) (by omega) (partsP b).length k 0 (by omega) (by omega)
        have e0 : ((0 : Nat) : Int) = 0 := rfl
        rw [e0, datas_parts, datas_parts] at g
        simp only [List.drop_zero] at g
        rw [g]
        congr 1
        rw [Bool.eq_iff_iff, decide_eq_true_eq]
        exact (within_parts h1 h2).symm
    · rw [if_pos h1, if_neg h2, if_pos trivial]
      have : okP b.data.toList = false := by simpa using h2
      unfold withinL; rw [this]; simp
  · rw [if_neg h1, if_pos trivial]
    have : okP a.data.toList = false := by simpa using h1
    unfold withinL; rw [this]; simp
theorem cmp_within {a b : List UInt8} (h : withinL a b = true) : 0 ≤ cmpP a b := by
  have h' := Go.Mh.within_iff.1 h
  have hp := (within_parts h'.1 h'.2.1).1 h
  unfold cmpP
  rw [if_pos h'.1, if_pos h'.2.1]
  obtain ⟨q, hq⟩ := hp
  rw [← hq]
  exact lex_prefix cmpB_good _ _
theorem PathsOrder (a b c : ByteArray) (ha : a.size ≤ 1048576) (hb : b.size ≤ 1048576) (hc : c.size ≤ 1048576) : ∃ k, mahoutlaw06_PathsOrder.f k a b c = some true := by
  refine ⟨5000001, ?_⟩
  unfold mahoutlaw06_PathsOrder.f
  rw [speaks_f, compare_f a b ha hb _ (by omega), compare_f b c hb hc _ (by omega), compare_f a c ha hc _ (by omega), rcompare_f a b ha hb _ (by omega), within_f a b (by omega) (by omega), rwithin_f a b ha hb _ (by omega)]
  simp only [Option.bind_some, if_true, bne_self_eq_false]
  simp only [mahoutlaw06_PathsOrder.j0]
  rw [if_neg (by decide), compare_f b a hb ha _ (by omega), within_f a b (by omega) (by omega)]
  simp only [Option.bind_some]
  have hf := cmpP_good.flip a.data.toList b.data.toList
  have hr := cmpP_good.rng b.data.toList a.data.toList
  have hw : wrap64 (-cmpP b.data.toList a.data.toList) = -cmpP b.data.toList a.data.toList := by unfold wrap64; omega
  rw [hw, if_pos hf]
  have hz : ((cmpP a.data.toList b.data.toList == 0) != (a.toList == b.toList)) = false := by
    rw [Lib.toList_data, Lib.toList_data]
    have := cmpP_good.zero a.data.toList b.data.toList
    by_cases h : a.data.toList = b.data.toList
    · have e1 : (cmpP a.data.toList b.data.toList == 0) = true := beq_iff_eq.2 (this.2 h)
      have e2 : (a.data.toList == b.data.toList) = true := beq_iff_eq.2 h
      rw [e1, e2]; rfl
    · have h2 : ¬ cmpP a.data.toList b.data.toList = 0 := fun e => h (this.1 e)
      have e1 : (cmpP a.data.toList b.data.toList == 0) = false := beq_eq_false_iff_ne.2 h2
      have e2 : (a.data.toList == b.data.toList) = false := beq_eq_false_iff_ne.2 h
      rw [e1, e2]; rfl
  rw [hz, if_neg (by decide)]
  have ht := cmpP_good.trans a.data.toList b.data.toList c.data.toList
  have hwi := @cmp_within a.data.toList b.data.toList
  generalize cmpP a.data.toList b.data.toList = x at *
  generalize cmpP b.data.toList c.data.toList = y at *
  generalize cmpP a.data.toList c.data.toList = z at *
  have last : (if withinL a.data.toList b.data.toList = true then some (decide (x ≥ 0)) else some true) = some true := by
    by_cases h : withinL a.data.toList b.data.toList = true
    · rw [if_pos h, decide_eq_true (hwi h)]
    · rw [if_neg h]
  rw [last]
  by_cases h1 : x ≤ 0
  · rw [if_pos h1]
    by_cases h2 : y ≤ 0
    · have := ht h1 h2
      rw [if_pos h2, if_neg (by omega)]
    · rw [if_neg h2]
  · rw [if_neg h1]
end Go.Proofs.YthllnfdbhfkflaaDoor.P
