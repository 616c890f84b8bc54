/-
  PATHS AS LISTS OF BYTES: plain definitions and lemmas, no program in sight.
-/
import Derived.Lib.Split
import Derived.Lib.SplitLaws
import Derived.Lib.IndexBytes
import Derived.Lib.IndexLaws
import Derived.Lib.Strings
set_option linter.unusedSimpArgs false
set_option linter.unusedVariables false
namespace Go.Mh
open Go.Lib

theorem ba_ext {a b : ByteArray} (h : a.data.toList = b.data.toList) : a = b := by
  cases a with
  | mk a => cases b with
    | mk b => congr 1; exact Array.toList_inj.1 h
def mkB (l : List UInt8) : ByteArray := ⟨l.toArray⟩
theorem mkB_data (l : List UInt8) : (mkB l).data.toList = l := by simp [mkB]
theorem mkB_size (l : List UInt8) : (mkB l).size = l.length := by show l.toArray.size = _; simp
theorem mkB_of (s : ByteArray) : mkB s.data.toList = s := ba_ext (mkB_data _)
theorem mkB_inj {a b : List UInt8} (h : mkB a = mkB b) : a = b := by rw [← mkB_data a, h, mkB_data]
theorem size_len (s : ByteArray) : s.size = s.data.toList.length := Lib.size_eq s

/-- May a byte stand in a part of a path? -/
def okByte (b : UInt8) : Bool := decide (33 ≤ b.toNat) && decide (b.toNat ≤ 126) && !(b.toNat == 47)
/-- Is a text a part of a path? -/
def partL (l : List UInt8) : Bool := l.all okByte && !(l == []) && decide (l.length ≤ 64) && !(l == [46]) && !(l == [46, 46])
def partB (s : ByteArray) : Bool :=
  s.data.toList.all okByte && !(s.data.toList == []) && decide (s.size ≤ 64) && !(s.data.toList == [46]) && !(s.data.toList == [46, 46])
theorem partB_eq (s : ByteArray) : partB s = partL s.data.toList := by unfold partB partL; rw [size_len]
/-- The pieces between slashes. -/
def slash : ByteArray := ⟨#[47]⟩
def piecesB (s : ByteArray) : List ByteArray := splitB slash 0 (countB s slash) s
/-- paths.Split. -/
def splitP (p : ByteArray) : List ByteArray × Int :=
  if p.data.toList = [47] then ([], 0)
  else
    if !hasPrefix p.data.toList [47] || decide (256 < p.size) || decide (16 < (piecesB ⟨(trimPrefix p.data.toList [47]).toArray⟩).length) then ([], 60)
    else if (piecesB ⟨(trimPrefix p.data.toList [47]).toArray⟩).any (fun s => !partB s) then ([], 60)
    else (piecesB ⟨(trimPrefix p.data.toList [47]).toArray⟩, 0)

theorem drop_at (s : ByteArray) (i : Nat) (h : i < s.size) : s.data.toList.drop i = s[i] :: s.data.toList.drop (i + 1) := by
  rw [List.drop_eq_getElem_cons (by simpa using h)]
  rfl

/-! ### Pieces between slashes, on lists -/
def segs : List UInt8 → List (List UInt8)
  | [] => [[]]
  | b :: l => if b = 47 then [] :: segs l else match segs l with
    | s :: r => (b :: s) :: r
    | [] => [[b]]
theorem segs_ne (l : List UInt8) : segs l ≠ [] := by
  induction l with
  | nil => simp [segs]
  | cons b l ih =>
    unfold segs
    split
    · simp
    · split <;> simp
theorem segs_plain (l : List UInt8) (h : ∀ b ∈ l, b ≠ 47) : segs l = [l] := by
  induction l with
  | nil => rfl
  | cons b l ih =>
    unfold segs
    rw [if_neg (h b (by simp)), ih (fun x hx => h x (by simp [hx]))]
theorem segs_slash (l r : List UInt8) (h : ∀ b ∈ l, b ≠ 47) : segs (l ++ 47 :: r) = l :: segs r := by
  induction l with
  | nil => rw [List.nil_append, segs, if_pos rfl]
  | cons b l ih =>
    rw [List.cons_append, segs, if_neg (h b (by simp)), ih (fun x hx => h x (by simp [hx]))]
theorem indexByte_split (l : List UInt8) : (indexByte l 47 = -1 ∧ ∀ b ∈ l, b ≠ 47) ∨ ∃ p r, l = p ++ 47 :: r ∧ (∀ b ∈ p, b ≠ 47) ∧ indexByte l 47 = p.length := by
  induction l with
  | nil => exact .inl ⟨rfl, by simp⟩
  | cons b l ih =>
    by_cases e : b = 47
    · subst e
      exact .inr ⟨[], l, rfl, by simp, by simp [indexByte]⟩
    · have e' : (b == 47) = false := beq_eq_false_iff_ne.2 e
      rcases ih with ⟨h1, h2⟩ | ⟨p, r, h1, h2, h3⟩
      · left
        refine ⟨by simp [indexByte, e', h1], fun x hx => ?_⟩
        rcases List.mem_cons.1 hx with rfl | hx
        · exact e
        · exact h2 x hx
      · right
        refine ⟨b :: p, r, by rw [h1]; rfl, fun x hx => ?_, ?_⟩
        · rcases List.mem_cons.1 hx with rfl | hx
          · exact e
          · exact h2 x hx
        · have : (indexByte l 47 == -1) = false := beq_eq_false_iff_ne.2 (by omega)
          simp only [indexByte, e', this]
          simp [h3]
theorem splitK_segs (n : Nat) : ∀ (l : List UInt8) (k : Nat), l.length ≤ n → l.count 47 = k → splitK [47] 0 k l = segs l := by
  induction n with
  | zero =>
    intro l k hl hk
    have : l = [] := List.eq_nil_of_length_eq_zero (by omega)
    subst this
    simp at hk
    subst hk
    rfl
  | succ n ih =>
    intro l k hl hk
    rcases indexByte_split l with ⟨h1, h2⟩ | ⟨p, r, h1, h2, h3⟩
    · have hc : l.count 47 = 0 := List.count_eq_zero.2 (fun h => h2 47 h rfl)
      rw [hc] at hk
      subst hk
      rw [segs_plain l h2]; rfl
    · have hp : p.count 47 = 0 := List.count_eq_zero.2 (fun h => h2 47 h rfl)
      rw [h1, List.count_append, hp, List.count_cons_self, Nat.zero_add] at hk
      subst hk
      have hi : index l [47] = p.length := by rw [index_one]; exact h3
      unfold splitK
      rw [hi, if_neg (by simp)]
      have e1 : ((p.length : Int)).toNat = p.length := by omega
      rw [e1, Nat.add_zero, h1, List.take_left' rfl]
      have e2 : (p ++ 47 :: r).drop (p.length + ([47] : List UInt8).length) = r := by
        rw [List.drop_append, List.drop_of_length_le (by omega)]; simp
      rw [e2, segs_slash p r h2]
      congr 1
      refine ih r _ ?_ rfl
      rw [h1] at hl
      simp at hl
      omega
theorem piecesB_data (s : ByteArray) : (piecesB s).map (·.data.toList) = segs s.data.toList := by
  unfold piecesB
  rw [splitB_data]
  refine splitK_segs s.data.toList.length _ _ (Nat.le_refl _) ?_
  show List.count 47 s.data.toList = Lib.count s.data.toList [47]
  rw [count_one]
theorem piecesB_eq (s : ByteArray) : piecesB s = (segs s.data.toList).map mkB := by
  rw [← piecesB_data, List.map_map]
  conv => lhs; rw [← List.map_id (piecesB s)]
  exact List.map_congr_left fun x _ => (mkB_of x).symm

/-! ### A path's parts -/
/-- Is a text that isn't the root a path? -/
def okL (l : List UInt8) : Bool :=
  (match l with
    | 47 :: r => (segs r).all partL && decide ((segs r).length ≤ 16)
    | _ => false) && decide (l.length ≤ 256)
def okP (l : List UInt8) : Bool := decide (l = [47]) || okL l
def partsL (l : List UInt8) : List (List UInt8) := if l = [47] then [] else if okL l then segs l.tail else []
def partsP (p : ByteArray) : List ByteArray := (partsL p.data.toList).map mkB
def code (b : Bool) : Int := if b then 0 else 60
theorem okL_root : okL [47] = false := by decide
theorem hasPrefix_slash (l : List UInt8) : hasPrefix l [47] = (match l with | 47 :: _ => true | _ => false) := by
  unfold hasPrefix
  cases l with
  | nil => rfl
  | cons b l =>
    by_cases e : b = 47
    · subst e; simp
    · have h1 : (47 == b) = false := beq_eq_false_iff_ne.2 (fun h => e h.symm)
      simp only [List.isPrefixOf, h1, Bool.false_and]
      split
      · rename_i h; simp at h; exact absurd h.1 e
      · rfl
theorem splitP_eq (p : ByteArray) : splitP p = (partsP p, code (okP p.data.toList)) := by
  unfold splitP partsP partsL okP
  by_cases h : p.data.toList = [47]
  · simp [h, code]
  · simp only [if_neg h, decide_eq_false h, Bool.false_or]
    rw [hasPrefix_slash, size_len p]
    generalize p.data.toList = l at h
    unfold okL trimPrefix
    rw [hasPrefix_slash]
    cases l with
    | nil => simp [code]
    | cons b r =>
      by_cases e : b = 47
      · subst e
        simp only [if_true, List.length_cons, List.length_nil, Nat.zero_add, List.drop_succ_cons, List.drop_zero, List.tail_cons]
        have hp : piecesB ⟨r.toArray⟩ = (segs r).map mkB := by rw [piecesB_eq]
        rw [hp]
        have ha : ((segs r).map mkB).any (fun s => !partB s) = !((segs r).all partL) := by
          rw [List.any_map]
          induction segs r with
          | nil => rfl
          | cons x l ih => simp only [List.any_cons, List.all_cons, Function.comp, partB_eq, mkB_data] at *; rw [ih]; simp
        rw [ha, List.length_map]
        by_cases h1 : 256 < r.length + 1
        · have : decide (r.length + 1 ≤ 256) = false := decide_eq_false (by omega)
          have h4 : ¬ r.length ≤ 255 := by omega
          simp [h1, this, h4, code]
        · have h1' : decide (r.length + 1 ≤ 256) = true := decide_eq_true (by omega)
          by_cases h2 : 16 < (segs r).length
          · have : decide ((segs r).length ≤ 16) = false := decide_eq_false (by omega)
            simp [h1, h2, this, code]
          · have h2' : decide ((segs r).length ≤ 16) = true := decide_eq_true (by omega)
            cases h3 : (segs r).all partL
            · simp [h1, h2, h1', h2', h3, code]
            · have h4 : r.length ≤ 255 := by omega
              simp [h1, h2, h1', h2', h3, h4, code]
      · have hm : (match b :: r with | 47 :: _ => true | _ => false) = false := by
          split
          · rename_i h'; simp at h'; exact absurd h'.1 e
          · rfl
        have hm2 : (match b :: r with | 47 :: r => (segs r).all partL && decide ((segs r).length ≤ 16) | _ => false) = false := by
          split
          · rename_i h'; simp at h'; exact absurd h'.1 e
          · rfl
        simp [hm, hm2, code]
end Go.Mh
