/-
  paths.Join, Parent, Base and the reference's Join over the printed functions; the plain laws of PathsSplits, PathsJoins and PathsUp.
-/
import Derived.Test.YthllnfdbhfkflaaDoorPx6
import Derived.Test.YthllnfdbhfkflaaDoorPx7
import Derived.Test.YthllnfdbhfkflaaDoorPx11
import Derived.Test.YthllnfdbhfkflaaDoorPx12
import Derived.Test.YthllnfdbhfkflaaDoorRef
import Derived.Test.YthllnfdbhfkflaaDoorParts
set_option linter.unusedSimpArgs false
set_option linter.unusedVariables false
namespace Go.Proofs.YthllnfdbhfkflaaDoor.P
open Go.RowKit Go.Lib Go.Mh Go.Proofs.YthllnfdbhfkflaaDoorW.PrintWords Go.Proofs.YthllnfdbhfkflaaDoorW.PrintMore

theorem rd_nat (xs : List ByteArray) (i : Nat) (h : i < xs.length) : rdOf ByteArray.empty xs (i : Int) = xs[i] := by
  unfold rdOf
  rw [show ((i : Int)).toNat = i from by omega, List.getD_eq_getElem?_getD, List.getElem?_eq_getElem h]; rfl
theorem drop_cons {α : Type} (xs : List α) (i : Nat) (h : i < xs.length) : xs.drop i = xs[i] :: xs.drop (i + 1) := List.drop_eq_getElem_cons h

/-! ### texts -/
theorem texts_l0 (l0 l1 : List ByteArray) (he : l0.length = l1.length) (hn : l0.length ≤ 1099511627776) (d : Nat) : ∀ k i : Nat, i + d = l0.length → d < k →
    mahoutlaw06_texts.l0 k l0 l1 (i : Int) = some (decide (l0.drop i = l1.drop i)) := by
  induction d with
  | zero =>
    intro k i hd hk
    obtain ⟨k, rfl⟩ : ∃ m, k = m + 1 := ⟨k - 1, by omega⟩
    simp only [mahoutlaw06_texts.l0]
    rw [if_neg (by omega), List.drop_of_length_le (by omega), List.drop_of_length_le (by omega)]; rfl
  | succ d ih =>
    intro k i hd hk
    obtain ⟨k, rfl⟩ : ∃ m, k = m + 1 := ⟨k - 1, by omega⟩
    simp only [mahoutlaw06_texts.l0]
    rw [if_pos (by omega), if_pos (by omega), if_pos (by omega), rd_nat l0 i (by omega), rd_nat l1 i (by omega), drop_cons l0 i (by omega), drop_cons l1 i (by omega), Lib.toList_data, Lib.toList_data]
    by_cases h : l0[i].data.toList = l1[i].data.toList
    · rw [if_pos h, wrap_nat i (by omega), ih k (i + 1) (by omega) (by omega), ba_ext h]
      congr 1
      exact decide_eq_decide.2 ⟨fun e => by rw [e], fun e => (List.cons.inj e).2⟩
    · rw [if_neg h]
      have : ¬ (l0[i] :: l0.drop (i + 1) = l1[i] :: l1.drop (i + 1)) := fun e => h (by rw [(List.cons.inj e).1])
      rw [decide_eq_false this]
theorem texts_f (k : Nat) (l0 l1 : List ByteArray) (hn : l0.length ≤ 1099511627776) (hk : l0.length < k) : mahoutlaw06_texts.f k l0 l1 = some (decide (l0 = l1)) := by
  unfold mahoutlaw06_texts.f
  by_cases h : l0.length = l1.length
  · rw [if_pos (by omega)]
    have := texts_l0 l0 l1 h hn l0.length k 0 (by omega) hk
    simpa using this
  · rw [if_neg (by omega), decide_eq_false (fun e => h (by rw [e]))]

/-! ### paths.Join -/
theorem part_fk (s : ByteArray) (hn : s.size ≤ 1099511627776) (k : Nat) (hk : s.size < k) : paths_part.f k s = some (partL s.data.toList) := by
  unfold paths_part.f
  have h := part_l0 s hn s.size k 0 (by omega) hk
  simp only [List.drop_zero] at h
  have e : ((0 : Nat) : Int) = 0 := rfl
  rw [e] at h
  rw [h, ← partB_eq]
  unfold partB
  simp only [Bool.and_assoc]
def datas (ls : List ByteArray) : List (List UInt8) := ls.map (·.data.toList)
theorem flat_len_mem {ps : List (List UInt8)} {p : List UInt8} (h : p ∈ ps) : p.length + 1 ≤ (flat ps).length := by
  induction ps with
  | nil => cases h
  | cons q ps ih =>
    rw [flat_cons]
    rcases List.mem_cons.1 h with rfl | h
    · simp
    · have := ih h; simp; omega
theorem flat_len_ge (ps : List (List UInt8)) : ps.length ≤ (flat ps).length := by
  induction ps with
  | nil => simp
  | cons q ps ih => rw [flat_cons]; simp; omega
theorem flat_len_drop (ps : List (List UInt8)) (i : Nat) : (flat (ps.drop i)).length ≤ (flat ps).length := by
  conv => rhs; rw [← List.take_append_drop i ps]
  rw [flat_append, List.length_append]; omega
def joined (ps : List (List UInt8)) : ByteArray × Int := if validL ps then (mkB (joinL ps), 0) else (⟨#[]⟩, 60)
theorem join_text (ls : List ByteArray) (h : (flat (datas ls)).length ≤ 1099511627776) : strings_Join.f ls (⟨#[47]⟩ : ByteArray) = some (mkB (joinL (datas ls)).tail) ∧ (joinL (datas ls)).tail.length + 1 = (joinL (datas ls)).length ∧ joinL (datas ls) = 47 :: (joinL (datas ls)).tail := by
  have e : Lib.join (datas ls) [47] = (joinL (datas ls)).tail ∧ joinL (datas ls) = 47 :: (joinL (datas ls)).tail := by
    unfold joinL
    cases hd : datas ls with
    | nil => exact ⟨rfl, rfl⟩
    | cons p ps =>
      rw [if_neg (by simp), flat_cons, List.tail_cons, join_cons]
      exact ⟨rfl, rfl⟩
  have hl : (joinL (datas ls)).length ≤ 1099511627776 := by
    unfold joinL; split
    · decide
    · exact h
  have h2 : (joinL (datas ls)).tail.length + 1 = (joinL (datas ls)).length := by
    conv => rhs; rw [e.2]
    simp
  refine ⟨?_, h2, e.2⟩
  unfold strings_Join.f
  have hx : (ls.map (·.data.toList)) = datas ls := rfl
  have hc : (⟨#[47]⟩ : ByteArray).data.toList = [47] := rfl
  rw [hx, hc, e.1]
  have hlen : ls.length ≤ (flat (datas ls)).length := by have := flat_len_ge (datas ls); simpa [datas] using this
  rw [if_pos ⟨by omega, by omega⟩]
  rfl
theorem wrap_id (x : Int) (h0 : 0 ≤ x) (h1 : x ≤ 4611686018427387904) : wrap64 x = x := by unfold wrap64; omega
theorem join_l0 (ls : List ByteArray) (hn : (flat (datas ls)).length ≤ 1099511627776) (B : Nat) (hB : (flat (datas ls)).length + 9 ≤ B) (d : Nat) : ∀ k i : Nat, i + d = ls.length → B + d < k →
    paths_Join.l0 k ls ((flat ((datas ls).take i)).length : Int) ls (ls.length : Int) (i : Int) = some (if ((datas ls).drop i).all partL then (if 16 < ls.length ∨ 256 < (flat (datas ls)).length then (⟨#[]⟩, 60) else (mkB (joinL (datas ls)), 0)) else (⟨#[]⟩, 60)) := by
  have hd' : (datas ls).length = ls.length := by simp [datas]
  have hlen : ls.length ≤ (flat (datas ls)).length := by have := flat_len_ge (datas ls); omega
  induction d with
  | zero =>
    intro k i hd hk
    obtain ⟨k, rfl⟩ : ∃ m, k = m + 1 := ⟨k - 1, by omega⟩
    simp only [paths_Join.l0]
    rw [if_neg (by omega), List.take_of_length_le (by omega), List.drop_of_length_le (by omega)]
    simp only [List.all_nil, if_true]
    by_cases h1 : 16 < ls.length
    · rw [if_pos (by omega), if_pos (.inl h1)]
    · rw [if_neg (by omega)]
      by_cases h2 : 256 < (flat (datas ls)).length
      · rw [if_pos (by omega), if_pos (.inr h2)]
      · obtain ⟨g1, g2, g3⟩ := join_text ls hn
        rw [if_neg (by omega), if_neg (by omega), g1]
        simp only [Option.bind_some]
        have hj : (joinL (datas ls)).length ≤ 257 := by
          unfold joinL
          split
          · decide
          · omega
        rw [mkB_size, if_pos (by omega)]
        congr 2
        apply ba_ext
        rw [mkB_data]
        conv => rhs; rw [g3]
        simp [mkB]
  | succ d ih =>
    intro k i hd hk
    obtain ⟨k, rfl⟩ : ∃ m, k = m + 1 := ⟨k - 1, by omega⟩
    have hi : i < ls.length := by omega
    have hp : (datas ls)[i]'(by omega) = ls[i].data.toList := by simp [datas]
    have hm := flat_len_mem (List.getElem_mem (l := datas ls) (n := i) (by omega))
    rw [hp] at hm
    have hs := size_len ls[i]
    simp only [paths_Join.l0]
    rw [if_pos (by omega), if_pos (by omega), if_pos (by omega), rd_nat ls i hi, part_fk ls[i] (by omega) k (by omega), drop_cons (datas ls) i (by omega), hp]
    simp only [Option.bind_some, List.all_cons]
    by_cases h : partL ls[i].data.toList = true
    · rw [if_pos h, wrap_nat i (by omega)]
      have htl := flat_len_drop (datas ls) 0
      have e1 : flat ((datas ls).take (i + 1)) = flat ((datas ls).take i) ++ (47 :: ls[i].data.toList) := by
        rw [List.take_succ_eq_append_getElem (by omega), flat_append, hp]
        simp [flat]
      have hle : (flat ((datas ls).take (i + 1))).length ≤ (flat (datas ls)).length := by
        conv => rhs; rw [← List.take_append_drop (i + 1) (datas ls)]
        rw [flat_append, List.length_append]; omega
      have e2 : wrap64 (((flat ((datas ls).take i)).length : Int) + wrap64 (1 + (ls[i].size : Int))) = ((flat ((datas ls).take (i + 1))).length : Int) := by
        have e3 : (flat ((datas ls).take (i + 1))).length = (flat ((datas ls).take i)).length + (1 + ls[i].size) := by
          rw [e1, List.length_append, List.length_cons]; omega
        rw [wrap_id (1 + (ls[i].size : Int)) (by omega) (by omega), wrap_id _ (by omega) (by omega), e3]
        omega
      rw [e2, ih k (i + 1) (by omega) (by omega)]
      simp [h]
    · rw [if_neg h]
      have : partL ls[i].data.toList = false := by simpa using h
      simp [this]
theorem join_f (ls : List ByteArray) (hn : (flat (datas ls)).length ≤ 1048576) (k : Nat) (hk : 5000000 ≤ k) : paths_Join.f k ls = some (joined (datas ls)) := by
  unfold paths_Join.f
  have hlen : ls.length ≤ (flat (datas ls)).length := by have := flat_len_ge (datas ls); simpa [datas] using this
  have h := join_l0 ls (by omega) 1048600 (by omega) ls.length k 0 (by omega) (by omega)
  simp only [List.take_zero, List.drop_zero, flat_nil, List.length_nil] at h
  have e0 : ((0 : Nat) : Int) = 0 := rfl
  rw [e0] at h
  rw [h]
  unfold joined validL
  have hd' : (datas ls).length = ls.length := by simp [datas]
  rw [hd']
  cases (datas ls).all partL
  · simp
  · by_cases h1 : 16 < ls.length
    · have : decide (ls.length ≤ 16) = false := decide_eq_false (by omega)
      simp [h1, this]
    · have e1 : decide (ls.length ≤ 16) = true := decide_eq_true (by omega)
      by_cases h2 : 256 < (flat (datas ls)).length
      · have : decide ((flat (datas ls)).length ≤ 256) = false := decide_eq_false (by omega)
        simp [h2, this]
      · have e2 : decide ((flat (datas ls)).length ≤ 256) = true := decide_eq_true (by omega)
        simp [e1, e2, h1, h2]

/-! ### the reference's Join -/
theorem rjoin_l1 (l0 l1 : List ByteArray) (x : ByteArray) (he : l0.length = l1.length) (hn : l0.length ≤ 1099511627776) (d : Nat) : ∀ k i : Nat, i + d = l0.length → d < k →
    mahoutref06_Join.l1 k l0 x l1 (i : Int) = some (if l0.drop i = l1.drop i then (x, true) else (⟨#[]⟩, false)) := by
  induction d with
  | zero =>
    intro k i hd hk
    obtain ⟨k, rfl⟩ : ∃ m, k = m + 1 := ⟨k - 1, by omega⟩
    simp only [mahoutref06_Join.l1]
    rw [if_neg (by omega), List.drop_of_length_le (by omega), List.drop_of_length_le (by omega)]; rfl
  | succ d ih =>
    intro k i hd hk
    obtain ⟨k, rfl⟩ : ∃ m, k = m + 1 := ⟨k - 1, by omega⟩
    simp only [mahoutref06_Join.l1]
    rw [if_pos (by omega), if_pos (by omega), if_pos (by omega), rd_nat l0 i (by omega), rd_nat l1 i (by omega), drop_cons l0 i (by omega), drop_cons l1 i (by omega), Lib.toList_data, Lib.toList_data]
    by_cases h : l1[i].data.toList = l0[i].data.toList
    · rw [if_pos h, wrap_nat i (by omega), ih k (i + 1) (by omega) (by omega), ba_ext h]
      congr 1
      by_cases e : l0.drop (i + 1) = l1.drop (i + 1)
      · rw [if_pos e, if_pos (by rw [e])]
      · rw [if_neg e, if_neg (fun h' => e (List.cons.inj h').2)]
    · rw [if_neg h]
      have : ¬ (l0[i] :: l0.drop (i + 1) = l1[i] :: l1.drop (i + 1)) := fun e => h (by rw [(List.cons.inj e).1])
      rw [if_neg this]
def rjoined (ps : List (List UInt8)) : ByteArray × Bool := if validL ps then (mkB (joinL ps), true) else (⟨#[]⟩, false)
theorem mkB_map (ls : List ByteArray) : (datas ls).map mkB = ls := by
  unfold datas
  rw [List.map_map]
  conv => rhs; rw [← List.map_id ls]
  exact List.map_congr_left fun x _ => mkB_of x
theorem datas_mkB (ps : List (List UInt8)) : datas (ps.map mkB) = ps := by
  unfold datas
  rw [List.map_map]
  conv => rhs; rw [← List.map_id ps]
  exact List.map_congr_left fun x _ => mkB_data x
theorem rjoin_l0 (ls : List ByteArray) (hn : (flat (datas ls)).length ≤ 1048576) (d : Nat) : ∀ k i : Nat, i + d = ls.length → 4500000 + d < k →
    mahoutref06_Join.l0 k ls (mkB (flat ((datas ls).take i))) (i : Int) = some (rjoined (datas ls)) := by
  have hd' : (datas ls).length = ls.length := by simp [datas]
  have hlen : ls.length ≤ (flat (datas ls)).length := by have := flat_len_ge (datas ls); omega
  induction d with
  | zero =>
    intro k i hd hk
    obtain ⟨k, rfl⟩ : ∃ m, k = m + 2 := ⟨k - 2, by omega⟩
    simp only [mahoutref06_Join.l0]
    rw [if_neg (by omega), List.take_of_length_le (by omega)]
    by_cases h0 : ls.length = 0
    · have : ls = [] := List.eq_nil_of_length_eq_zero h0
      subst this
      rw [if_pos (by simp)]
      congr 1
    · rw [if_neg (by omega), rsplit_f _ (by rw [mkB_size]; omega) (k + 1) (by rw [mkB_size]; omega), mkB_data]
      simp only [Option.bind_some, mahoutref06_Join.j1]
      have hne : datas ls ≠ [] := fun e => h0 (by rw [← hd', e]; rfl)
      have hval : validL (datas ls) = true ↔ okP (flat (datas ls)) = true ∧ partsL (flat (datas ls)) = datas ls := by
        constructor
        · intro h
          obtain ⟨h1, h2, h3⟩ := parts_flat h hne
          exact ⟨by unfold okP; rw [h1]; simp, h2⟩
        · rintro ⟨h1, h2⟩
          have := (join_ok h1).1
          rwa [h2] at this
      have hparts : partsP (mkB (flat (datas ls))) = (partsL (flat (datas ls))).map mkB := by unfold partsP; rw [mkB_data]
      rw [hparts]
      unfold rjoined
      by_cases h1 : okP (flat (datas ls)) = true
      · rw [if_pos h1]
        by_cases h2 : (partsL (flat (datas ls))).length = ls.length
        · have hb : ((((partsL (flat (datas ls))).map mkB).length : Int) != (ls.length : Int)) = false := by simp [h2]
          rw [hb, if_neg (by decide)]
          have g := rjoin_l1 ls ((partsL (flat (datas ls))).map mkB) (mkB (flat (datas ls))) (by simp [h2]) (by omega) ls.length k 0 (by omega) (by omega)
          have e0 : ((0 : Nat) : Int) = 0 := rfl
          rw [e0] at g
          rw [g]
          simp only [List.drop_zero]
          by_cases h3 : partsL (flat (datas ls)) = datas ls
          · rw [if_pos (by rw [h3, mkB_map]), if_pos (hval.2 ⟨h1, h3⟩)]
            unfold joinL; rw [if_neg hne]
          · rw [if_neg (fun e => h3 (by rw [← datas_mkB (partsL (flat (datas ls))), ← e])), if_neg (fun h => h3 (hval.1 h).2)]
        · have hb : ((((partsL (flat (datas ls))).map mkB).length : Int) != (ls.length : Int)) = true := by simp; omega
          rw [hb, if_pos rfl, if_neg (fun h => h2 (by rw [(hval.1 h).2, hd']))]
      · rw [if_neg h1, if_neg (fun h => h1 (hval.1 h).1)]; rfl
  | succ d ih =>
    intro k i hd hk
    obtain ⟨k, rfl⟩ : ∃ m, k = m + 1 := ⟨k - 1, by omega⟩
    have hi : i < ls.length := by omega
    have hp : (datas ls)[i]'(by omega) = ls[i].data.toList := by simp [datas]
    have e1 : flat ((datas ls).take (i + 1)) = flat ((datas ls).take i) ++ (47 :: ls[i].data.toList) := by
      rw [List.take_succ_eq_append_getElem (by omega), flat_append, hp]
      simp [flat]
    have hle : (flat ((datas ls).take (i + 1))).length ≤ (flat (datas ls)).length := by
      conv => rhs; rw [← List.take_append_drop (i + 1) (datas ls)]
      rw [flat_append, List.length_append]; omega
    have hs := size_len ls[i]
    have e2 : mkB (flat ((datas ls).take i)) ++ ((⟨#[47]⟩ : ByteArray) ++ ls[i]) = mkB (flat ((datas ls).take (i + 1))) := by
      apply ba_ext
      rw [mkB_data, e1]
      simp [mkB]
    have hsz : (mkB (flat ((datas ls).take i)) ++ ((⟨#[47]⟩ : ByteArray) ++ ls[i])).size ≤ 1048576 := by rw [e2, mkB_size]; omega
    rw [ByteArray.size_append] at hsz
    have hsz1 : ((⟨#[47]⟩ : ByteArray) ++ ls[i]).size = 1 + ls[i].size := by rw [ByteArray.size_append]; rfl
    simp only [mahoutref06_Join.l0]
    rw [if_pos (by omega), if_pos (by omega), rd_nat ls i hi, if_pos (by omega), if_pos (by omega), e2, wrap_nat i (by omega)]
    exact ih k (i + 1) (by omega) (by omega)
theorem rjoin_f (ls : List ByteArray) (hn : (flat (datas ls)).length ≤ 1048576) (k : Nat) (hk : 6000000 ≤ k) : mahoutref06_Join.f k ls = some (rjoined (datas ls)) := by
  unfold mahoutref06_Join.f
  have hlen : ls.length ≤ (flat (datas ls)).length := by have := flat_len_ge (datas ls); simpa [datas] using this
  have h := rjoin_l0 ls hn ls.length k 0 (by omega) (by omega)
  simp only [List.take_zero, flat_nil] at h
  exact h
end Go.Proofs.YthllnfdbhfkflaaDoor.P
