/-
  paths.Parent and paths.Base; the plain laws of PathsSplits, PathsJoins and PathsUp.
-/
import Derived.Test.YthllnfdbhfkflaaDoorJoin
set_option linter.unusedSimpArgs false
set_option linter.unusedVariables false
namespace Go.Proofs.YthllnfdbhfkflaaDoor.P
open Go.RowKit Go.Lib Go.Mh Go.Proofs.YthllnfdbhfkflaaDoorW.PrintWords Go.Proofs.YthllnfdbhfkflaaDoorW.PrintMore

def upL (l : List UInt8) : List UInt8 := joinL (partsL l).dropLast
def baseL (l : List UInt8) : List UInt8 := (partsL l).getLast?.getD []
theorem last_split {l : List UInt8} (h : okL l = true) : ∃ init last, partsL l = init ++ [last] ∧ l = flat init ++ 47 :: last ∧ partL last = true ∧ upL l = joinL init ∧ baseL l = last ∧ validL init = true := by
  obtain ⟨ps, hne, hv, rfl⟩ := okL_iff.1 h
  obtain ⟨h1, h2, h3⟩ := parts_flat hv hne
  refine ⟨ps.dropLast, ps.getLast hne, by rw [h2, List.dropLast_concat_getLast], ?_, ?_, by unfold upL; rw [h2], ?_, ?_⟩
  · conv => lhs; rw [← List.dropLast_concat_getLast hne]
    rw [flat_append, flat_cons, flat_nil, List.append_nil]
  · unfold validL at hv
    simp only [Bool.and_eq_true] at hv
    exact List.all_eq_true.1 hv.1.1 _ (List.getLast_mem hne)
  · unfold baseL; rw [h2, List.getLast?_eq_some_getLast hne]; rfl
  · rw [← List.dropLast_concat_getLast hne] at hv
    exact valid_prefix hv
theorem cut_f (p : ByteArray) (h : p.size ≤ 1099511627) : paths_cut.f p = some (if okL p.data.toList then (mkB (upL p.data.toList), mkB (baseL p.data.toList), 0) else (⟨#[]⟩, ⟨#[]⟩, 60)) := by
  unfold paths_cut.f
  rw [check_f p (by omega), Lib.toList_data]
  by_cases h0 : p.data.toList = [47]
  · rw [if_pos h0, h0, okL_root]; rfl
  · rw [if_neg h0]
    simp only [Option.bind_some, code_zero]
    have e : okP p.data.toList = okL p.data.toList := by unfold okP; rw [decide_eq_false h0, Bool.false_or]
    rw [e]
    by_cases h1 : okL p.data.toList = true
    · rw [if_pos h1, if_pos h1]
      obtain ⟨init, last, g1, g2, g3, g4, g5, g6⟩ := last_split h1
      have hl := size_len p
      have hlen : p.size = (flat init).length + (last.length + 1) := by rw [hl, g2]; simp
      unfold strings_LastIndexByte.f
      rw [if_pos (by omega), lastIndex_at p (flat init) last g2 (part_plain g3), g4, g5]
      simp only [Option.bind_some]
      have hw : wrap64 (((flat init).length : Int) + 1) = (((flat init).length + 1 : Nat) : Int) := wrap_nat _ (by omega)
      have hm : mx ((flat init).length : Int) 1 = ((max (flat init).length 1 : Nat) : Int) := by unfold mx; split <;> omega
      rw [hm, hw, if_pos (by omega), if_pos (by omega), if_pos (by omega), if_pos (by omega)]
      have c1 : (((max (flat init).length 1 : Nat) : Int)).toNat = max (flat init).length 1 := by omega
      have c2 : ((((flat init).length + 1 : Nat) : Int)).toNat = (flat init).length + 1 := by omega
      rw [c1, c2, extract_mkB, extract_mkB]
      congr 3
      · congr 1
        rw [g2]
        unfold joinL
        by_cases hi : init = []
        · subst hi; simp [flat_nil]
        · rw [if_neg hi]
          have : 1 ≤ (flat init).length := by
            have := flat_len_ge init
            have : 0 < init.length := List.length_pos_iff.2 hi
            omega
          rw [show max (flat init).length 1 = (flat init).length from by omega]
          simp
      · congr 2
        rw [g2]
        simp
        exact List.take_of_length_le (by omega)
    · rw [if_neg h1, if_neg h1]
theorem parent_f (p : ByteArray) (h : p.size ≤ 1099511627) : paths_Parent.f p = some (if okL p.data.toList then (mkB (upL p.data.toList), 0) else (⟨#[]⟩, 60)) := by
  unfold paths_Parent.f
  rw [cut_f p h]
  cases okL p.data.toList <;> rfl
theorem base_f (p : ByteArray) (h : p.size ≤ 1099511627) : paths_Base.f p = some (if okL p.data.toList then (mkB (baseL p.data.toList), 0) else (⟨#[]⟩, 60)) := by
  unfold paths_Base.f
  rw [cut_f p h]
  cases okL p.data.toList <;> rfl
theorem ok_split (l : List UInt8) : okP l = true ↔ l = [47] ∨ okL l = true := by unfold okP; simp
theorem valid_size {ps : List (List UInt8)} (h : validL ps = true) : (flat ps).length ≤ 256 ∧ ps.length ≤ 16 := by
  unfold validL at h
  simp only [Bool.and_eq_true, decide_eq_true_eq] at h
  exact ⟨h.2, h.1.2⟩
theorem partsP_length (p : ByteArray) : (partsP p).length = (partsL p.data.toList).length := by unfold partsP; simp
theorem parts_short (l : List UInt8) : (partsL l).length ≤ 16 ∧ (flat (partsL l)).length ≤ 256 := by
  by_cases h : okP l = true
  · have := valid_size (join_ok h).1; exact ⟨this.2, this.1⟩
  · rw [parts_bad (by simpa using h)]; simp [flat_nil]

/-! ### PathsSplits -/
theorem splits_l0 (p : ByteArray) (hn : p.size ≤ 1048576) (l2 : List ByteArray) (e2 : l2 = partsP p) (d : Nat) : ∀ (k i : Nat) (x : List ByteArray), x.length = (partsP p).length → i + d = (partsP p).length → 6000100 + d < k →
    mahoutlaw06_PathsSplits.l0 k p (partsP p) x l2 (i : Int) = some true := by
  have hps := parts_short p.data.toList
  have hpl := partsP_length p
  induction d with
  | zero =>
    intro k i x hx hd hk
    obtain ⟨k, rfl⟩ : ∃ m, k = m + 1 := ⟨k - 1, by omega⟩
    simp only [mahoutlaw06_PathsSplits.l0]
    rw [if_neg (by omega), texts_f k _ _ (by rw [e2]; omega) (by rw [e2]; omega), parent_f p (by omega), base_f p (by omega), e2]
    simp only [Option.bind_some, decide_true, if_true]
    by_cases h0 : okL p.data.toList = true
    · obtain ⟨init, last, g1, g2, g3, g4, g5, g6⟩ := last_split h0
      have hlen : (partsP p).length = init.length + 1 := by rw [hpl, g1]; simp
      rw [if_neg (by omega), if_pos h0, if_pos h0]
      have hw : wrap64 (((partsP p).length : Int) - 1) = (init.length : Int) := by rw [hlen]; unfold wrap64; omega
      rw [hw, if_pos (by omega), if_pos (by omega)]
      have c1 : ((init.length : Int)).toNat = init.length := by omega
      have ht : (partsP p).take init.length = init.map mkB := by unfold partsP; rw [g1]; simp
      have hv := valid_size g6
      rw [c1, ht, rjoin_f _ (by rw [datas_mkB]; omega) k (by omega), datas_mkB]
      unfold rjoined
      rw [if_pos g6, g4, g5]
      simp only [Option.bind_some]
      have hr : rdOf ByteArray.empty (partsP p) (init.length : Int) = mkB last := by
        rw [rd_nat _ _ (by omega)]
        unfold partsP
        simp [g1]
      rw [if_pos trivial, if_pos (by omega), hr, if_pos rfl]
      simp
    · have h0' : okL p.data.toList = false := by simpa using h0
      have he : partsL p.data.toList = [] := by
        unfold partsL
        rw [h0']
        split <;> simp
      rw [if_pos (by rw [hpl, he]; rfl), h0']
      simp
  | succ d ih =>
    intro k i x hx hd hk
    obtain ⟨k, rfl⟩ : ∃ m, k = m + 1 := ⟨k - 1, by omega⟩
    simp only [mahoutlaw06_PathsSplits.l0]
    rw [if_pos (by omega), if_pos (by omega), wrap_nat i (by omega)]
    exact ih k (i + 1) _ (by simp [hx]) (by omega) (by omega)
theorem PathsSplits (p : ByteArray) (hn : p.size ≤ 1048576) : ∃ k, mahoutlaw06_PathsSplits.f k p = some true := by
  have hps := parts_short p.data.toList
  have hpl := partsP_length p
  have j0 : mahoutlaw06_PathsSplits.j0 7000001 p (partsP p) (partsP p) (partsP p) false = some true := by
    simp only [mahoutlaw06_PathsSplits.j0]
    rw [if_neg (by decide)]
    exact splits_l0 p hn _ rfl (partsP p).length 7000000 0 _ rfl (by omega) (by omega)
  refine ⟨7000001, ?_⟩
  unfold mahoutlaw06_PathsSplits.f
  rw [speaks_f, rsplit_f p hn _ (by omega), split_f p (by omega), check_f p (by omega)]
  simp only [Option.bind_some, if_true]
  rw [texts_f _ _ _ (by omega) (by omega)]
  simp only [decide_true, Option.bind_some, Bool.not_true]
  rw [j0]
  cases okP p.data.toList <;> simp [code]

/-! ### PathsJoins -/
theorem PathsJoins (ls : List ByteArray) (hs : (flat (datas ls)).length ≤ 1048576) : ∃ k, mahoutlaw06_PathsJoins.f k ls = some true := by
  have hlen : ls.length ≤ (flat (datas ls)).length := by have := flat_len_ge (datas ls); simpa [datas] using this
  have key : ∀ k, 6999999 ≤ k → mahoutlaw06_PathsJoins.j0 k ls (joined (datas ls)).1 (rjoined (datas ls)).2 false = some true := by
    intro k hk
    obtain ⟨k, rfl⟩ : ∃ m, k = m + 1 := ⟨k - 1, by omega⟩
    simp only [mahoutlaw06_PathsJoins.j0]
    rw [if_neg (by decide)]
    unfold joined rjoined
    by_cases hv : validL (datas ls) = true
    · rw [if_pos hv, if_pos hv]
      simp only [if_true]
      obtain ⟨g1, g2⟩ := ok_join hv
      have hv2 := valid_size hv
      have hj : (joinL (datas ls)).length ≤ 257 := by
        unfold joinL
        split
        · decide
        · omega
      rw [split_f _ (by rw [mkB_size]; omega), mkB_data, g1]
      simp only [Option.bind_some, code, if_true]
      have : partsP (mkB (joinL (datas ls))) = ls := by unfold partsP; rw [mkB_data, g2, mkB_map]
      rw [this, texts_f _ _ _ (by omega) (by omega)]
      simp
    · rw [if_neg hv, if_neg hv]; simp
  refine ⟨7000000, ?_⟩
  unfold mahoutlaw06_PathsJoins.f
  rw [speaks_f]
  simp only [Option.bind_some, if_true, List.length_nil, List.nil_append, Nat.zero_add]
  rw [if_pos (by omega), join_f ls hs _ (by omega), rjoin_f ls hs _ (by omega)]
  simp only [Option.bind_some]
  rw [texts_f _ _ _ (by omega) (by omega)]
  simp only [decide_true, Option.bind_some, Bool.not_true]
  rw [key _ (by omega)]
  unfold joined rjoined
  cases validL (datas ls) <;> simp

/-! ### PathsUp -/
theorem up_l0 (d : Nat) : ∀ (k i : Nat) (p : ByteArray), okP p.data.toList = true → (partsL p.data.toList).length = d → i + d ≤ 16 → 5000010 + d < k →
    mahoutlaw06_PathsUp.l0 k p (i : Int) = some true := by
  induction d with
  | zero =>
    intro k i p hp hd hi hk
    obtain ⟨k, rfl⟩ : ∃ m, k = m + 1 := ⟨k - 1, by omega⟩
    have e : p.data.toList = [47] := (parts_nil hp).1 (List.eq_nil_of_length_eq_zero hd)
    have hsz : p.size = 1 := by rw [size_len, e]; rfl
    simp only [mahoutlaw06_PathsUp.l0]
    rw [if_pos (by omega), parent_f p (by omega), base_f p (by omega), Lib.toList_data, e, okL_root]
    simp
  | succ d ih =>
    intro k i p hp hd hi hk
    obtain ⟨k, rfl⟩ : ∃ m, k = m + 1 := ⟨k - 1, by omega⟩
    have hne : p.data.toList ≠ [47] := fun e => by rw [(parts_nil hp).2 e] at hd; simp at hd
    have ho : okL p.data.toList = true := ((ok_split _).1 hp).resolve_left hne
    obtain ⟨init, last, g1, g2, g3, g4, g5, g6⟩ := last_split ho
    have hv := (join_ok hp).1
    rw [g1] at hv
    have hvs := valid_size hv
    have hvi := valid_size g6
    have hj := (join_ok hp).2
    rw [g1] at hj
    have hjl : joinL (init ++ [last]) = flat (init ++ [last]) := by unfold joinL; rw [if_neg (by simp)]
    have hsz : p.size ≤ 257 := by rw [size_len, ← hj, hjl]; omega
    have hul : (joinL init).length ≤ 257 := by
      unfold joinL
      split
      · decide
      · omega
    obtain ⟨u1, u2⟩ := ok_join g6
    have hpu : partsP (mkB (joinL init)) = init.map mkB := by unfold partsP; rw [mkB_data, u2]
    have hjn : init.map mkB ++ [mkB last] = (init ++ [last]).map mkB := by simp
    simp only [mahoutlaw06_PathsUp.l0]
    rw [if_pos (by omega), parent_f p (by omega), base_f p (by omega), ho, g4, g5]
    simp only [if_true, Option.bind_some]
    rw [Lib.toList_data, if_neg hne, split_f _ (by rw [mkB_size]; omega), hpu]
    simp only [Option.bind_some]
    rw [if_pos (by simp; omega), hjn, join_f _ (by rw [datas_mkB]; omega) k (by omega), datas_mkB]
    unfold joined
    rw [if_pos hv]
    simp only [Option.bind_some, if_true]
    rw [Lib.toList_data, mkB_data, hj, if_pos rfl, within_f p _ (by omega) (by rw [mkB_size]; omega), within_f _ p (by rw [mkB_size]; omega) (by omega), mkB_data]
    have hpre : p.data.toList = flat init ++ 47 :: last := g2
    have w1 : withinL p.data.toList (joinL init) = true := by
      rw [Go.Mh.within_iff]
      refine ⟨hp, u1, ?_⟩
      right
      unfold joinL
      by_cases h : init = []
      · rw [if_pos h]; exact .inl rfl
      · rw [if_neg h]
        right
        rw [hpre]
        exact ⟨last, by simp⟩
    have w2 : withinL (joinL init) p.data.toList = false := by
      cases h : withinL (joinL init) p.data.toList with
      | false => rfl
      | true =>
        have := Go.Mh.within_anti w1 h
        have h2 : partsL p.data.toList = init := by rw [this, u2]
        rw [g1] at h2
        have := congrArg List.length h2
        simp at this
    rw [w1, w2]
    simp only [Option.bind_some, if_true]
    rw [if_neg (by decide), wrap_nat i (by omega)]
    refine ih k (i + 1) _ (by rw [mkB_data]; exact u1) (by rw [mkB_data, u2]; rw [g1] at hd; simp at hd; omega) (by omega) (by omega)
theorem PathsUp (p : ByteArray) (hn : p.size ≤ 1048576) : ∃ k, mahoutlaw06_PathsUp.f k p = some true := by
  refine ⟨6000000, ?_⟩
  unfold mahoutlaw06_PathsUp.f
  rw [speaks_f, check_f p (by omega), parent_f p (by omega)]
  simp only [Option.bind_some, if_true, code_zero]
  by_cases h : okP p.data.toList = true
  · rw [if_pos h]
    have hs := parts_short p.data.toList
    exact up_l0 _ 6000000 0 p h rfl (by omega) (by omega)
  · rw [if_neg h]
    have : okL p.data.toList = false := by
      cases h' : okL p.data.toList with
      | false => rfl
      | true => exact absurd ((ok_split _).2 (.inr h')) h
    rw [this]; rfl
end Go.Proofs.YthllnfdbhfkflaaDoor.P
