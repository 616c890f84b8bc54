/-
  CONTRACTS of strings.Split at one byte, paths.Split, strings.Compare, strings.Join, strings.HasPrefix, strings.LastIndexByte, in the form in which the printed functions take them.
-/
import Derived.Test.YthllnfdbhfkflaaDoorPx1
import Derived.Test.YthllnfdbhfkflaaDoorShelf
import Derived.Test.YthllnfdbhfkflaaDoorPure
import Derived.Lib.Hide
namespace Go.Proofs.YthllnfdbhfkflaaDoor.P
open Go.RowKit Go.Lib Go.Shelf Go.Mh Go.Proofs.YthllnfdbhfkflaaDoorW.PrintWords Go.Proofs.YthllnfdbhfkflaaDoorW.PrintLast Go.Proofs.YthllnfdbhfkflaaDoorW.PrintMore
set_option linter.unusedVariables false
set_option linter.unusedSimpArgs false

theorem bt_get (s : ByteArray) (i : Nat) (h : i < s.size) : bt s (i : Int) = (s[i].toNat : Int) := by simp [bt, h]

/-! ### paths.part -/
theorem part_l0 (s : ByteArray) (hn : s.size ≤ 1099511627776) (d : Nat) : ∀ (k i : Nat), i + d = s.size → d < k →
    paths_part.l0 k s (s.size : Int) (i : Int) = some ((s.data.toList.drop i).all okByte && (!(s.data.toList == []) && decide (s.size ≤ 64) && !(s.data.toList == [46]) && !(s.data.toList == [46, 46]))) := by
  induction d with
  | zero =>
    intro k i hd hk
    obtain ⟨k, rfl⟩ : ∃ m, k = m + 1 := ⟨k - 1, by omega⟩
    simp only [paths_part.l0]
    rw [if_neg (by omega), Lib.toList_data, List.drop_of_length_le (by simp; omega)]
    by_cases h1 : s.data.toList = []
    · rw [if_pos h1]; simp [h1]
    · rw [if_neg h1]
      by_cases h2 : (s.size : Int) ≤ 64
      · rw [if_pos h2]
        have h2' : s.size ≤ 64 := by omega
        by_cases h3 : s.data.toList = [46]
        · rw [if_pos h3]; simp [h3]
        · rw [if_neg h3]
          have : decide (s.size ≤ 64) = true := decide_eq_true h2'
          rw [this]
          simp only [List.all_nil, Bool.true_and]
          rw [show (s.data.toList == []) = false from beq_eq_false_iff_ne.2 h1, show (s.data.toList == [46]) = false from beq_eq_false_iff_ne.2 h3]
          rfl
      · rw [if_neg h2]
        have : decide (s.size ≤ 64) = false := decide_eq_false (by omega)
        rw [this]; simp
  | succ d ih =>
    intro k i hd hk
    obtain ⟨k, rfl⟩ : ∃ m, k = m + 1 := ⟨k - 1, by omega⟩
    have hi : i < s.size := by omega
    simp only [paths_part.l0]
    rw [if_pos (by omega), if_pos (by omega), if_pos (by omega), bt_get s i hi, drop_at s i hi]
    simp only [List.all_cons]
    by_cases h1 : (s[i].toNat : Int) < 33
    · rw [if_pos h1]
      have : decide (33 ≤ s[i].toNat) = false := decide_eq_false (by omega)
      simp [okByte, this]
    · rw [if_neg h1]
      have e1 : decide (33 ≤ s[i].toNat) = true := decide_eq_true (by omega)
      by_cases h2 : (s[i].toNat : Int) > 126
      · rw [if_pos h2]
        have : decide (s[i].toNat ≤ 126) = false := decide_eq_false (by omega)
        simp [okByte, this]
      · rw [if_neg h2]
        have e2 : decide (s[i].toNat ≤ 126) = true := decide_eq_true (by omega)
        by_cases h3 : (s[i].toNat : Int) = 47
        · rw [if_pos h3]
          have : (s[i].toNat == 47) = true := beq_iff_eq.2 (by omega)
          simp [okByte, this]
        · rw [if_neg h3]
          have e3 : (s[i].toNat == 47) = false := beq_eq_false_iff_ne.2 (by omega)
          have hw : wrap64 ((i : Int) + 1) = ((i + 1 : Nat) : Int) := by unfold wrap64; omega
          rw [hw, ih k (i + 1) (by omega) (by omega)]
          simp [okByte, e1, e2, e3]
theorem part_f (s : ByteArray) (hn : s.size ≤ 1099511627776) : paths_part.f (s.size + 1) s = some (partB s) := by
  unfold paths_part.f
  have h := part_l0 s hn s.size (s.size + 1) 0 (by omega) (by omega)
  simp only [List.drop_zero] at h
  have e : ((0 : Nat) : Int) = 0 := rfl
  rw [e] at h
  rw [h]
  unfold partB
  simp only [Bool.and_assoc]

/-! ### strings.Split at "/" -/
set_option maxHeartbeats 1000000 in
theorem split_one (s sep : ByteArray) (w : World) (hs : s.size < 4294967281) (h1 : sep.size = 1) :
    Calls Tryd.prog 24 #[.string s, .string sep] w fun e w' =>
      e = .returned (.slice (some ⟨w.heap.size, 0, none⟩) (Lib.splitB sep 0 (Lib.countB s sep) s).length (Lib.splitB sep 0 (Lib.countB s sep) s).length) ∧ w' = w.alloc (.cells ((Lib.splitB sep 0 (Lib.countB s sep) s).map Value.string).toArray 9) := by
  have hle := Lib.countB_le sep (by omega) s.size s (Nat.le_refl _)
  have hlen := Lib.splitB_all sep (by omega) 0 _ s rfl
  obtain ⟨c, rfl⟩ := Lib.one_byte sep h1
  have hC : Calls Tryd.prog 43 #[.string s, .string ⟨#[c]⟩] w fun e w' => e = .returned (.int .i64 (Lib.countB s ⟨#[c]⟩)) ∧ w' = w :=
    (Tryd.strings_Count_one s c w).mono fun e w' ⟨he, hw⟩ => ⟨by rw [he]; show _ = Ending.returned (Value.int .i64 ((Lib.count s.data.toList [c] : Nat) : Int)); rw [Lib.count_one]; rfl, hw⟩
  have hI : ∀ (x : ByteArray) (cs : Array Value), x.size ≤ s.size → Calls Tryd.prog 44 #[.string x, .string ⟨#[c]⟩] (w.alloc (.cells cs 9)) fun e w' => e = .returned (.int .i64 (Lib.indexB x ⟨#[c]⟩)) ∧ w' = w.alloc (.cells cs 9) :=
    fun x cs _ => (Tryd.strings_Index_one x c _).mono fun e w' ⟨he, hw⟩ => ⟨by rw [he]; show _ = Ending.returned (Value.int .i64 (Lib.index x.data.toList [c])); rw [Lib.index_one], hw⟩
  have c' : Calls Tryd.prog 34 #[.string s, .string ⟨#[c]⟩, .int .i64 ((0 : Nat) : Int), .int .i64 (-1)] w _ := Any.strings_genSplit_core Tryd.lays221 (by kernel_rfl) s ⟨#[c]⟩ 0 (-1) (Lib.countB s ⟨#[c]⟩ + 1) w hs (by omega) (Nat.zero_le _) hI hC (by decide) (by decide) (by rw [if_pos (by decide)]; omega)
  rw [Nat.add_sub_cancel, hlen] at c'
  have e2 : Lib.cellsOf (Lib.splitB ⟨#[c]⟩ 0 (Lib.countB s ⟨#[c]⟩) s) (Lib.countB s ⟨#[c]⟩ + 1) = ((Lib.splitB ⟨#[c]⟩ 0 (Lib.countB s ⟨#[c]⟩) s).map Value.string).toArray := by rw [← hlen]; exact Lib.cellsOf_full _
  rw [e2] at c'
  rw [hlen]
  go_enter Tryd.func24, Tryd.ntmps24
  go_wp2_with (go_at_call 34; refine c'.mono ?_; rintro e w' ⟨rfl, hw⟩; rw [hw])
  go_ret
  exact ⟨rfl, rfl⟩

theorem R_made (w : World) (xs : List ByteArray) (e : Nat) (hm : xs.length ≤ maxLen) :
    Kd.R Kd.string e (w.alloc (.cells (xs.map Value.string).toArray e)) w.heap.size (fun _ => True) (.slice (some ⟨w.heap.size, 0, none⟩) xs.length xs.length) xs := by
  refine Kd.R_of_own ⟨by simp [encs], .inr ⟨w.heap.size, xs.length, _, rfl, Nat.le_refl _, heap_alloc_new w _, Nat.le_refl _, hm, by simp, ?_⟩⟩ (fun _ _ => trivial)
  simp [encs, List.take_of_length_le]

/-! ### paths.Split -/
abbrev Sm := { x : ByteArray // x.size ≤ 1099511627776 }
theorem not_part (W : World) (x : Sm) : Calls Tryd.prog 26 #[.string x.1] W fun e w' => e = .returned (.bool (!partB x.1)) ∧ ∃ q, w' = W.drewN q := by
  have c := paths_part.calls (x.1.size + 1) x.1 _ W (part_f x.1 x.2)
  generalize partB x.1 = b at c
  go_enter Tryd.func26, Tryd.ntmps26
  go_wp2_with (go_at_call 27; refine c.mono ?_; rintro e w' ⟨rfl, ⟨nd, rfl⟩⟩)
  go_ret
  exact ⟨rfl, _, rfl⟩
theorem contains_bad (zs : List ByteArray) (hz : ∀ x ∈ zs, x.size ≤ 1099511627776) (b c : Nat) (hbig : zs.length ≤ 9223372036854775807) (w : World)
    (hc : ∀ j x, zs[j]? = some x → w.cell? ⟨b, j, none⟩ = some (.string x)) :
    Calls Tryd.prog 25 #[.slice (some ⟨b, 0, none⟩) zs.length c, .func (.func 26) #[] #[]] w fun e w' => e = .returned (.bool (zs.any fun s => !partB s)) ∧ ∃ q, w' = w.drewN q := by
  haveI : Inhabited Sm := ⟨⟨ByteArray.empty, by decide⟩⟩
  have h := Tryd.slices_ContainsFunc (α := Sm) (fun x => .string x.1) (fun x => !partB x.1) 26 #[] (enters_of Tryd.func26 (by kernel_rfl) rfl) b 0 zs.length c (zs.attach.map fun x => ⟨x.1, hz x.1 x.2⟩) w
    (fun W x _ => not_part W x) (by simp) hbig (fun j hj => by
      have hj' : j < zs.length := by simpa using hj
      rw [getElem!_pos _ j hj]
      simp only [List.getElem_map, List.getElem_attach, Nat.zero_add]
      exact hc j _ (List.getElem?_eq_getElem hj'))
  refine h.mono fun e w' ⟨he, hq⟩ => ⟨?_, hq⟩
  rw [he]
  congr 2
  rw [List.take_of_length_le (by simp), List.any_map]
  have : ∀ (l : List ByteArray) (p : ByteArray → Bool), (l.attach.any fun x => p x.1) = l.any p := fun l p => by
    conv => rhs; rw [← List.attach_map_subtype_val l]
    rw [List.any_map]; rfl
  exact this zs (fun s => !partB s)

theorem splitB_sizes (sep : ByteArray) (sv : Nat) (n : Nat) : ∀ (s x : ByteArray), x ∈ splitB sep sv n s → x.size ≤ s.size := by
  induction n with
  | zero => intro s x hx; simp [splitB] at hx; subst hx; exact Nat.le_refl _
  | succ n ih =>
    intro s x hx
    unfold splitB at hx
    split at hx
    · simp at hx; subst hx; exact Nat.le_refl _
    · rcases List.mem_cons.1 hx with rfl | h
      · rw [ByteArray.size_extract]; omega
      · have := ih _ _ h
        rw [ByteArray.size_extract] at this
        omega
theorem pieces_sizes (s x : ByteArray) (hx : x ∈ piecesB s) : x.size ≤ s.size := splitB_sizes _ _ _ _ _ hx
theorem pieces_length (s : ByteArray) : (piecesB s).length ≤ s.size + 1 := by
  unfold piecesB
  rw [Lib.splitB_all slash (by decide) 0 _ s rfl]
  have := Lib.countB_le slash (by decide) s.size s (Nat.le_refl _)
  omega
theorem trim_size (p : ByteArray) : (⟨(trimPrefix p.data.toList [47]).toArray⟩ : ByteArray).size ≤ p.size := by
  have h : (trimPrefix p.data.toList [47]).length ≤ p.data.toList.length := by
    unfold trimPrefix
    split
    · simp
    · exact Nat.le_refl _
  have e : (⟨(trimPrefix p.data.toList [47]).toArray⟩ : ByteArray).size = (trimPrefix p.data.toList [47]).length := by
    show (trimPrefix p.data.toList [47]).toArray.size = _
    simp
  rw [e]
  simpa using h

def paths_Split.f (p : ByteArray) : Option (List ByteArray × Int) := if p.size < 4294967281 then some (splitP p) else none
set_option maxHeartbeats 2000000 in
theorem paths_Split.calls (a0 : ByteArray) (r1 : List ByteArray) (r2 : Int) (w : World) (h : paths_Split.f a0 = some (r1, r2)) :
    Calls Tryd.prog 12 #[.string a0] w fun e w' => ∃ v0_ : Value, e = .returned (.tuple #[v0_, .int .i64 r2]) ∧ Kd.R Kd.string 9 w' w.heap.size (fun _ => True) v0_ r1 ∧ Below w.heap.size w w' := by
  unfold paths_Split.f at h
  by_cases hs : a0.size < 4294967281
  case neg => rw [if_neg hs] at h; cases h
  rw [if_pos hs] at h
  have H := Option.some.inj h
  clear h
  unfold splitP at H
  by_cases c1 : a0.data.toList = [47]
  · rw [if_pos c1] at H
    obtain ⟨rfl, rfl⟩ := Prod.mk.inj H
    have b1 : (a0.toList == [47]) = true := by rw [Lib.toList_data]; exact beq_iff_eq.2 c1
    have b2 : (a0.toList != [47]) = false := by rw [Lib.toList_data]; exact bne_eq_false_iff_eq.2 c1
    clear c1 H
    go_enter Tryd.func12, Tryd.ntmps12
    go_wp2
    go_ret2
    exact ⟨_, rfl, Kd.R_nil _ _ _ _ _, Below.refl _ _⟩
  rw [if_neg c1] at H
  have b1 : (a0.toList == [47]) = false := by rw [Lib.toList_data]; exact beq_eq_false_iff_ne.2 c1
  have b2 : (a0.toList != [47]) = true := by rw [Lib.toList_data]; exact bne_iff_ne.2 c1
  clear c1
  have hrs := trim_size a0
  have cP := Tryd.strings_CutPrefix a0 slash w
  rw [show slash.data.toList = [47] from rfl] at cP
  generalize (⟨(trimPrefix a0.data.toList [47]).toArray⟩ : ByteArray) = rest at cP H hrs
  generalize hasPrefix a0.data.toList [47] = ok at cP H
  have cS := split_one rest slash w (by omega) rfl
  have hps := pieces_sizes rest
  have hpl := pieces_length rest
  have eP : Lib.splitB slash 0 (Lib.countB rest slash) rest = piecesB rest := rfl
  rw [eP] at cS
  generalize piecesB rest = out at cS H hps hpl
  have hR := R_made w out 9 (by unfold maxLen; omega)
  have hB : Below w.heap.size w (w.alloc (.cells (out.map Value.string).toArray 9)) := (Below.refl _ _).alloc (Nat.le_refl _) _
  have cC := contains_bad out (fun x hx => by have := hps x hx; omega) w.heap.size out.length (by omega) (w.alloc (.cells (out.map Value.string).toArray 9)) (fun j x hj => by
    rw [World.cell?_alloc_new]
    · simp [hj])
  have HR := Lib.hid hR
  have HB := Lib.hid hB
  have HH := Lib.hid H
  clear hR hB H hps hpl hrs eP
  have fin60 : ∀ {W : World}, Below w.heap.size w W → ∃ v0_ : Value, Ending.returned (.tuple #[.slice none 0 0, .int .i64 60]) = .returned (.tuple #[v0_, .int .i64 60]) ∧ Kd.R Kd.string 9 W w.heap.size (fun _ => True) v0_ [] ∧ Below w.heap.size w W :=
    fun hb => ⟨_, rfl, Kd.R_nil _ _ _ _ _, hb⟩
  have F60 := Lib.hid (fun (W : World) => @fin60 W)
  clear fin60
  by_cases k1 : ok = true
  case neg =>
    have k1' : ok = false := by simpa using k1
    subst k1'
    have H := HH.out
    rw [if_pos (by simp)] at H
    obtain ⟨rfl, rfl⟩ := Prod.mk.inj H
    clear H
    go_enter Tryd.func12, Tryd.ntmps12
    go_wp2_with (first | (go_at_call 23; refine cP.mono ?_; rintro e w' ⟨rfl, rfl⟩) | (go_at_call 24; refine cS.mono ?_; rintro e w' ⟨rfl, hw⟩; rw [hw]))
    go_ret2
    exact F60.out _ HB.out
  subst k1
  by_cases k2 : 256 < a0.size
  case pos =>
    have H := HH.out
    rw [if_pos (by simp [k2])] at H
    obtain ⟨rfl, rfl⟩ := Prod.mk.inj H
    clear H
    have k2z : (256 : Int) < (a0.size : Int) := by omega
    go_enter Tryd.func12, Tryd.ntmps12
    go_wp2_with (first | (go_at_call 23; refine cP.mono ?_; rintro e w' ⟨rfl, rfl⟩) | (go_at_call 24; refine cS.mono ?_; rintro e w' ⟨rfl, hw⟩; rw [hw]))
    go_ret2
    exact F60.out _ HB.out
  have k2z : ¬ (256 : Int) < (a0.size : Int) := by omega
  by_cases k3 : 16 < out.length
  case pos =>
    have H := HH.out
    rw [if_pos (by simp [k3])] at H
    obtain ⟨rfl, rfl⟩ := Prod.mk.inj H
    clear H
    have k3z : (16 : Int) < (out.length : Int) := by omega
    go_enter Tryd.func12, Tryd.ntmps12
    go_wp2_with (first | (go_at_call 23; refine cP.mono ?_; rintro e w' ⟨rfl, rfl⟩) | (go_at_call 24; refine cS.mono ?_; rintro e w' ⟨rfl, hw⟩; rw [hw]))
    go_ret2
    exact F60.out _ HB.out
  have k3z : ¬ (16 : Int) < (out.length : Int) := by omega
  have H := HH.out
  rw [if_neg (by simp [k2, k3])] at H
  have H2 := Lib.hid H
  clear H HH
  cases hb : out.any (fun s => !partB s) with
  | true =>
    rw [hb] at cC
    have H := H2.out
    rw [if_pos hb] at H
    obtain ⟨rfl, rfl⟩ := Prod.mk.inj H
    clear H hb
    go_enter Tryd.func12, Tryd.ntmps12
    go_wp2_with (first | (go_at_call 23; refine cP.mono ?_; rintro e w' ⟨rfl, rfl⟩) | (go_at_call 24; refine cS.mono ?_; rintro e w' ⟨rfl, hw⟩; rw [hw]) | (go_at_call 25; refine cC.mono ?_; rintro e w' ⟨rfl, q, rfl⟩))
    go_ret2
    exact F60.out _ (pw_below_drewN HB.out _)
  | false =>
    rw [hb] at cC
    have H := H2.out
    rw [if_neg (by simp [hb])] at H
    obtain ⟨rfl, rfl⟩ := Prod.mk.inj H
    clear H hb
    go_enter Tryd.func12, Tryd.ntmps12
    go_wp2_with (first | (go_at_call 23; refine cP.mono ?_; rintro e w' ⟨rfl, rfl⟩) | (go_at_call 24; refine cS.mono ?_; rintro e w' ⟨rfl, hw⟩; rw [hw]) | (go_at_call 25; refine cC.mono ?_; rintro e w' ⟨rfl, q, rfl⟩))
    go_ret2
    exact ⟨_, rfl, Kd.R_drewN HR.out _, pw_below_drewN HB.out _⟩

/-- A row of strings that isn't empty: where it lies, cell by cell. -/
theorem C_strings {w : World} {A : Option Addr} {xs : List ByteArray} (h : Kd.C Kd.string w A xs.length xs) (hp : 0 < xs.length) :
    ∃ bk o, A = some ⟨bk, o, none⟩ ∧ bk < w.heap.size ∧ ∀ (j : Nat) x, xs[j]? = some x → w.cell? ⟨bk, o + j, none⟩ = some (.string x) := by
  obtain ⟨ad, e, hc⟩ := (Kd.reads_of_C (d := ByteArray.empty) h).2.2 hp
  have h0 := hc 0 hp
  rw [show ad.add 0 = ad from rfl] at h0
  obtain ⟨bk, o, sp⟩ := ad
  have hsp : sp = none := by
    cases sp with
    | none => rfl
    | some z => simp only [World.cell?] at h0; split at h0 <;> simp at h0
  subst hsp
  refine ⟨bk, o, e, World.block_lt_of_cell? _ _ h0, fun j x hx => ?_⟩
  have hj : j < xs.length := (List.getElem?_eq_some_iff.1 hx).1
  have := hc j hj
  rw [List.getD_eq_getElem?_getD, hx, Option.getD_some] at this
  rw [← this]
  congr 1
  unfold Addr.add
  split
  · rename_i e0; subst e0; rfl
  · rfl

/-! ### strings.HasPrefix, LastIndexByte, Compare, Join -/
def strings_HasPrefix.f (a0 a1 : ByteArray) : Option Bool := some (hasPrefix a0.data.toList a1.data.toList)
theorem strings_HasPrefix.calls (a0 a1 : ByteArray) (r : Bool) (w : World) (h : strings_HasPrefix.f a0 a1 = some r) :
    Calls Tryd.prog 21 #[.string a0, .string a1] w fun e w' => e = .returned (.bool r) ∧ Drawn0 w w' := by
  obtain rfl := Option.some.inj h
  exact (Tryd.strings_HasPrefix a0 a1 w).mono fun e w' ⟨he, hw⟩ => ⟨he, hw ▸ Drawn0.refl _⟩
def strings_LastIndexByte.f (a0 : ByteArray) (a1 : Int) : Option Int := if a0.size < 4611686018427387904 then some (lastIndexByte a0 a1) else none
theorem strings_LastIndexByte.calls (a0 : ByteArray) (a1 : Int) (r : Int) (w : World) (h : strings_LastIndexByte.f a0 a1 = some r) :
    Calls Tryd.prog 36 #[.string a0, .int .u8 a1] w fun e w' => e = .returned (.int .i64 r) ∧ Drawn0 w w' := by
  unfold strings_LastIndexByte.f at h
  by_cases hs : a0.size < 4611686018427387904
  · rw [if_pos hs] at h
    obtain rfl := Option.some.inj h
    exact (Tryd.strings_LastIndexByte a0 a1 hs w).mono fun e w' ⟨he, hw⟩ => ⟨he, hw ▸ Drawn0.refl _⟩
  · rw [if_neg hs] at h; cases h
def strings_Compare.f (a0 a1 : ByteArray) : Option Int := some (compareBytes a0.data.toList a1.data.toList)
theorem strings_Compare.calls (a0 a1 : ByteArray) (r : Int) (w : World) (h : strings_Compare.f a0 a1 = some r) :
    Calls Tryd.prog 30 #[.string a0, .string a1] w fun e w' => e = .returned (.int .i64 r) ∧ Drawn0 w w' := by
  obtain rfl := Option.some.inj h
  exact (Tryd.strings_Compare a0 a1 w).mono fun e w' ⟨he, hw⟩ => ⟨he, hw ▸ Drawn0.refl _⟩
def strings_Join.f (l0 : List ByteArray) (a1 : ByteArray) : Option ByteArray := if (Lib.join (l0.map (·.data.toList)) a1.data.toList).length ≤ 140737488355328 ∧ l0.length ≤ 140737488355328 then some ⟨(Lib.join (l0.map (·.data.toList)) a1.data.toList).toArray⟩ else none
theorem strings_Join.calls (A0 : Option Addr) (c0 : Nat) (l0 : List ByteArray) (a1 : ByteArray) (r : ByteArray) (w : World) (hr0 : Kd.C Kd.string w A0 l0.length l0) (hc0 : l0.length ≤ c0) (h : strings_Join.f l0 a1 = some r) :
    Calls Tryd.prog 31 #[.slice A0 l0.length c0, .string a1] w fun e w' => e = .returned (.string r) ∧ Below w.heap.size w w' := by
  unfold strings_Join.f at h
  by_cases hs : (Lib.join (l0.map (·.data.toList)) a1.data.toList).length ≤ 140737488355328 ∧ l0.length ≤ 140737488355328
  case neg => rw [if_neg hs] at h; cases h
  rw [if_pos hs] at h
  obtain rfl := Option.some.inj h
  cases l0 with
  | nil => exact (Tryd.strings_Join_none A0 c0 a1 w).mono fun e w' ⟨he, hw⟩ => ⟨he, hw ▸ Below.refl _ _⟩
  | cons x l =>
    obtain ⟨bk, o, rfl, hbk, hcell⟩ := C_strings hr0 (by simp)
    exact Tryd.strings_Join bk o c0 (x :: l) a1 w hcell hbk hs.2 hc0 hs.1
end Go.Proofs.YthllnfdbhfkflaaDoor.P
