-- PRINTED by print.py (a twelfth state) out of the translation. Not trusted: Lean checks it.
import Derived.Test.YthllnfdbhfkflaaDoorPx0
import Derived.Test.YthllnfdbhfkflaaDoorPx2
import Derived.Test.YthllnfdbhfkflaaDoorGiven
namespace Go.Proofs.YthllnfdbhfkflaaDoor.P
open Go.RowKit Go.Proofs.YthllnfdbhfkflaaDoorW.PrintWords Go.Proofs.YthllnfdbhfkflaaDoorW.PrintLast Go.Proofs.YthllnfdbhfkflaaDoorW.PrintMore
attribute [local go_sem] max2_int min2_int max_two min_two max_three min_three max_four min_four   -- for this text's walks alone
set_option linter.unusedVariables false
set_option linter.unusedSimpArgs false

/-! ### paths_Within: function 9 -/
def paths_Within.f (a0 : ByteArray) (a1 : ByteArray) : Option (Bool) := (paths_Check.f a0).bind fun t112 => (if t112 = 0 then ((paths_Check.f a1).bind fun t113 => (if t113 = 0 then (if a0.toList = a1.toList then (some true) else (if a1.toList = ([47] : List UInt8) then (some true) else (if a1.size + 1 ≤ 9223372036854775807 then ((strings_HasPrefix.f a0 (a1 ++ (⟨#[47]⟩ : ByteArray))).bind fun t114 => (some t114)) else (none)))) else (some false))) else (some false))
set_option maxHeartbeats 8000000 in
set_option maxRecDepth 100000 in
theorem paths_Within.calls (a0 : ByteArray) (a1 : ByteArray) (r : Bool) (w : World) (h : paths_Within.f a0 a1 = some r) :
    Calls Tryd.prog 9 #[.string a0, .string a1] w fun e w' => e = .returned (.bool r) ∧ Below w.heap.size w w' := by
  have HB := Aside0.mk (Below.refl w.heap.size w)
  have H : ((paths_Check.f a0).bind fun t112 => (if t112 = 0 then ((paths_Check.f a1).bind fun t113 => (if t113 = 0 then (if a0.toList = a1.toList then (some true) else (if a1.toList = ([47] : List UInt8) then (some true) else (if a1.size + 1 ≤ 9223372036854775807 then ((strings_HasPrefix.f a0 (a1 ++ (⟨#[47]⟩ : ByteArray))).bind fun t114 => (some t114)) else (none)))) else (some false))) else (some false))) = some r := h
  clear h
  replace H := Option.bind_eq_some_iff.mp H
  obtain ⟨t112, A30, H⟩ := H
  replace H : (if t112 = 0 then ((paths_Check.f a1).bind fun t113 => (if t113 = 0 then (if a0.toList = a1.toList then (some true) else (if a1.toList = ([47] : List UInt8) then (some true) else (if a1.size + 1 ≤ 9223372036854775807 then ((strings_HasPrefix.f a0 (a1 ++ (⟨#[47]⟩ : ByteArray))).bind fun t114 => (some t114)) else (none)))) else (some false))) else (some false)) = some r := H
  have A3 := Aside0.mk A30
  clear A30
  by_cases c4 : t112 = 0
  · rw [if_pos c4] at H
    have c4b0 : (t112 == 0) = true := beq_iff_eq.mpr c4
    have c4b1 : (t112 != 0) = false := bne_eq_false_iff_eq.mpr c4
    clear c4
    replace H := Option.bind_eq_some_iff.mp H
    obtain ⟨t113, A50, H⟩ := H
    replace H : (if t113 = 0 then (if a0.toList = a1.toList then (some true) else (if a1.toList = ([47] : List UInt8) then (some true) else (if a1.size + 1 ≤ 9223372036854775807 then ((strings_HasPrefix.f a0 (a1 ++ (⟨#[47]⟩ : ByteArray))).bind fun t114 => (some t114)) else (none)))) else (some false)) = some r := H
    have A5 := Aside0.mk A50
    clear A50
    by_cases c6 : t113 = 0
    · rw [if_pos c6] at H
      have c6b0 : (t113 == 0) = true := beq_iff_eq.mpr c6
      have c6b1 : (t113 != 0) = false := bne_eq_false_iff_eq.mpr c6
      clear c6
      by_cases c7 : a0.toList = a1.toList
      · rw [if_pos c7] at H
        have c7b0 : (a0.toList == a1.toList) = true := beq_iff_eq.mpr c7
        have c7b1 : (a0.toList != a1.toList) = false := bne_eq_false_iff_eq.mpr c7
        clear c7
        obtain rfl := Option.some.inj H
        go_enter Tryd.func9, Tryd.ntmps9
        go_wp2_with (first | ((with_reducible refine gate_callee (f := 10) rfl ?_); refine goesL_ (some 6) rfl rfl Tryd.func10 (by kernel_rfl) rfl #[.string a0] rfl (by (try simp only [List.map_toArray, List.map_cons, List.map_nil]); first | done | rfl | (simp only [List.length_drop, List.length_take]; rfl)) ?_; (with_reducible refine (paths_Check.calls a0 t112 _ A3.out).mono ?_); rintro e w8 ⟨rfl, hb⟩; refine ⟨_, rfl, ?_⟩; have n0_ := Aside0.mk (below_step (by repeat (first | (with_reducible first | exact HB.out | apply below_alloc | apply pw_below_drewN | apply below_drew1) | exact HB.out)) hb); clear HB; have HB := n0_; clear n0_; (try clear hb); (try clear hb2); (try clear hk); (try clear hi)) | (go_at_call 10; (with_reducible refine (paths_Check.calls a1 t113 _ A5.out).mono ?_); rintro e w9 ⟨rfl, hb⟩; have n0_ := Aside0.mk (below_step (by repeat (first | (with_reducible first | exact HB.out | apply below_alloc | apply pw_below_drewN | apply below_drew1) | exact HB.out)) hb); clear HB; have HB := n0_; clear n0_; (try clear hb); (try clear hb2); (try clear hk); (try clear hi)))
        go_ret
        exact ⟨by first | rfl | (simp [errW_none, errW_some] <;> rfl) | (simp [*, errW_none, errW_some] <;> rfl), by repeat (first | (with_reducible first | exact HB.out | apply below_alloc | apply pw_below_drewN | apply below_drew1) | exact HB.out)⟩
      · rw [if_neg c7] at H
        have c7b0 : (a0.toList == a1.toList) = false := beq_eq_false_iff_ne.mpr c7
        have c7b1 : (a0.toList != a1.toList) = true := bne_iff_ne.mpr c7
        by_cases c10 : a1.toList = ([47] : List UInt8)
        · rw [if_pos c10] at H
          have c10b0 : (a1.toList == ([47] : List UInt8)) = true := beq_iff_eq.mpr c10
          have c10b1 : (a1.toList != ([47] : List UInt8)) = false := bne_eq_false_iff_eq.mpr c10
          clear c10
          obtain rfl := Option.some.inj H
          go_enter Tryd.func9, Tryd.ntmps9
          go_wp2_with (first | ((with_reducible refine gate_callee (f := 10) rfl ?_); refine goesL_ (some 6) rfl rfl Tryd.func10 (by kernel_rfl) rfl #[.string a0] rfl (by (try simp only [List.map_toArray, List.map_cons, List.map_nil]); first | done | rfl | (simp only [List.length_drop, List.length_take]; rfl)) ?_; (with_reducible refine (paths_Check.calls a0 t112 _ A3.out).mono ?_); rintro e w11 ⟨rfl, hb⟩; refine ⟨_, rfl, ?_⟩; have n0_ := Aside0.mk (below_step (by repeat (first | (with_reducible first | exact HB.out | apply below_alloc | apply pw_below_drewN | apply below_drew1) | exact HB.out)) hb); clear HB; have HB := n0_; clear n0_; (try clear hb); (try clear hb2); (try clear hk); (try clear hi)) | (go_at_call 10; (with_reducible refine (paths_Check.calls a1 t113 _ A5.out).mono ?_); rintro e w12 ⟨rfl, hb⟩; have n0_ := Aside0.mk (below_step (by repeat (first | (with_reducible first | exact HB.out | apply below_alloc | apply pw_below_drewN | apply below_drew1) | exact HB.out)) hb); clear HB; have HB := n0_; clear n0_; (try clear hb); (try clear hb2); (try clear hk); (try clear hi)))
          go_ret
          exact ⟨by first | rfl | (simp [errW_none, errW_some] <;> rfl) | (simp [*, errW_none, errW_some] <;> rfl), by repeat (first | (with_reducible first | exact HB.out | apply below_alloc | apply pw_below_drewN | apply below_drew1) | exact HB.out)⟩
        · rw [if_neg c10] at H
          have c10b0 : (a1.toList == ([47] : List UInt8)) = false := beq_eq_false_iff_ne.mpr c10
          have c10b1 : (a1.toList != ([47] : List UInt8)) = true := bne_iff_ne.mpr c10
          by_cases c13 : a1.size + 1 ≤ 9223372036854775807
          · rw [if_pos c13] at H
            have c13b0 := eq_true c13
            have c13b1 : decide (a1.size + 1 ≤ 9223372036854775807) = true := decide_eq_true c13
            try have c13b2 : (9223372036854775807 < a1.size + 1) = False := eq_false (Nat.not_lt.2 c13)
            replace H := Option.bind_eq_some_iff.mp H
            obtain ⟨t114, A140, H⟩ := H
            replace H : (some t114) = some r := H
            have A14 := Aside0.mk A140
            clear A140
            obtain rfl := Option.some.inj H
            go_enter Tryd.func9, Tryd.ntmps9
            go_wp2_with (first | ((with_reducible refine gate_callee (f := 10) rfl ?_); refine goesL_ (some 6) rfl rfl Tryd.func10 (by kernel_rfl) rfl #[.string a0] rfl (by (try simp only [List.map_toArray, List.map_cons, List.map_nil]); first | done | rfl | (simp only [List.length_drop, List.length_take]; rfl)) ?_; (with_reducible refine (paths_Check.calls a0 t112 _ A3.out).mono ?_); rintro e w15 ⟨rfl, hb⟩; refine ⟨_, rfl, ?_⟩; have n0_ := Aside0.mk (below_step (by repeat (first | (with_reducible first | exact HB.out | apply below_alloc | apply pw_below_drewN | apply below_drew1) | exact HB.out)) hb); clear HB; have HB := n0_; clear n0_; (try clear hb); (try clear hb2); (try clear hk); (try clear hi)) | (go_at_call 10; (with_reducible refine (paths_Check.calls a1 t113 _ A5.out).mono ?_); rintro e w16 ⟨rfl, hb⟩; have n0_ := Aside0.mk (below_step (by repeat (first | (with_reducible first | exact HB.out | apply below_alloc | apply pw_below_drewN | apply below_drew1) | exact HB.out)) hb); clear HB; have HB := n0_; clear n0_; (try clear hb); (try clear hb2); (try clear hk); (try clear hi)) | (go_at_call 21; (with_reducible refine (strings_HasPrefix.calls a0 (a1 ++ (⟨#[47]⟩ : ByteArray)) t114 _ A14.out).mono ?_); rintro e w' ⟨rfl, ⟨nd, rfl⟩⟩))
            go_ret
            exact ⟨by first | rfl | (simp [errW_none, errW_some] <;> rfl) | (simp [*, errW_none, errW_some] <;> rfl), by repeat (first | (with_reducible first | exact HB.out | apply below_alloc | apply pw_below_drewN | apply below_drew1) | exact HB.out)⟩
          · rw [if_neg c13] at H
            exact absurd H (by simp)
    · rw [if_neg c6] at H
      have c6b0 : (t113 == 0) = false := beq_eq_false_iff_ne.mpr c6
      have c6b1 : (t113 != 0) = true := bne_iff_ne.mpr c6
      obtain rfl := Option.some.inj H
      go_enter Tryd.func9, Tryd.ntmps9
      go_wp2_with (first | ((with_reducible refine gate_callee (f := 10) rfl ?_); refine goesL_ (some 6) rfl rfl Tryd.func10 (by kernel_rfl) rfl #[.string a0] rfl (by (try simp only [List.map_toArray, List.map_cons, List.map_nil]); first | done | rfl | (simp only [List.length_drop, List.length_take]; rfl)) ?_; (with_reducible refine (paths_Check.calls a0 t112 _ A3.out).mono ?_); rintro e w17 ⟨rfl, hb⟩; refine ⟨_, rfl, ?_⟩; have n0_ := Aside0.mk (below_step (by repeat (first | (with_reducible first | exact HB.out | apply below_alloc | apply pw_below_drewN | apply below_drew1) | exact HB.out)) hb); clear HB; have HB := n0_; clear n0_; (try clear hb); (try clear hb2); (try clear hk); (try clear hi)) | (go_at_call 10; (with_reducible refine (paths_Check.calls a1 t113 _ A5.out).mono ?_); rintro e w18 ⟨rfl, hb⟩; have n0_ := Aside0.mk (below_step (by repeat (first | (with_reducible first | exact HB.out | apply below_alloc | apply pw_below_drewN | apply below_drew1) | exact HB.out)) hb); clear HB; have HB := n0_; clear n0_; (try clear hb); (try clear hb2); (try clear hk); (try clear hi)))
      go_ret
      exact ⟨by first | rfl | (simp [errW_none, errW_some] <;> rfl) | (simp [*, errW_none, errW_some] <;> rfl), by repeat (first | (with_reducible first | exact HB.out | apply below_alloc | apply pw_below_drewN | apply below_drew1) | exact HB.out)⟩
  · rw [if_neg c4] at H
    have c4b0 : (t112 == 0) = false := beq_eq_false_iff_ne.mpr c4
    have c4b1 : (t112 != 0) = true := bne_iff_ne.mpr c4
    obtain rfl := Option.some.inj H
    go_enter Tryd.func9, Tryd.ntmps9
    go_wp2_with (first | ((with_reducible refine gate_callee (f := 10) rfl ?_); refine goesL_ (some 6) rfl rfl Tryd.func10 (by kernel_rfl) rfl #[.string a0] rfl (by (try simp only [List.map_toArray, List.map_cons, List.map_nil]); first | done | rfl | (simp only [List.length_drop, List.length_take]; rfl)) ?_; (with_reducible refine (paths_Check.calls a0 t112 _ A3.out).mono ?_); rintro e w19 ⟨rfl, hb⟩; refine ⟨_, rfl, ?_⟩; have n0_ := Aside0.mk (below_step (by repeat (first | (with_reducible first | exact HB.out | apply below_alloc | apply pw_below_drewN | apply below_drew1) | exact HB.out)) hb); clear HB; have HB := n0_; clear n0_; (try clear hb); (try clear hb2); (try clear hk); (try clear hi)))
    go_ret
    exact ⟨by first | rfl | (simp [errW_none, errW_some] <;> rfl) | (simp [*, errW_none, errW_some] <;> rfl), by repeat (first | (with_reducible first | exact HB.out | apply below_alloc | apply pw_below_drewN | apply below_drew1) | exact HB.out)⟩

/-! ### mahoutlaw06_PathsWithin: function 3 -/
def mahoutlaw06_PathsWithin.j0 : Nat → ByteArray → Bool → Option (Bool)
  | 0, _, _ => none
  | k + 1, x0, x37 => if x37 = true then (some false) else ((paths_Within.f x0 x0).bind fun t125 => ((paths_Check.f x0).bind fun t126 => (if (t125 == (t126 == 0)) = true then ((paths_Check.f x0).bind fun t127 => (if t127 = 0 then ((paths_Within.f x0 (⟨#[47]⟩ : ByteArray)).bind fun t128 => (some t128)) else (some true))) else (some false))))
def mahoutlaw06_PathsWithin.f (k : Nat) (a0 : ByteArray) (a1 : ByteArray) (a2 : ByteArray) : Option (Bool) := (mahoutlaw06_speaks.f).bind fun t115 => (if t115 = true then ((paths_Within.f a0 a1).bind fun t116 => (if t116 = true then ((paths_Within.f a1 a2).bind fun t117 => (if t117 = true then ((paths_Within.f a0 a2).bind fun t118 => (if t118 = true then ((paths_Within.f a0 a1).bind fun t119 => (if t119 = true then ((paths_Within.f a1 a0).bind fun t120 => (if t120 = true then (mahoutlaw06_PathsWithin.j0 k a0 (a0.toList != a1.toList)) else (mahoutlaw06_PathsWithin.j0 k a0 false))) else (mahoutlaw06_PathsWithin.j0 k a0 false))) else (mahoutlaw06_PathsWithin.j0 k a0 true))) else ((paths_Within.f a0 a1).bind fun t121 => (if t121 = true then ((paths_Within.f a1 a0).bind fun t122 => (if t122 = true then (mahoutlaw06_PathsWithin.j0 k a0 (a0.toList != a1.toList)) else (mahoutlaw06_PathsWithin.j0 k a0 false))) else (mahoutlaw06_PathsWithin.j0 k a0 false))))) else ((paths_Within.f a0 a1).bind fun t123 => (if t123 = true then ((paths_Within.f a1 a0).bind fun t124 => (if t124 = true then (mahoutlaw06_PathsWithin.j0 k a0 (a0.toList != a1.toList)) else (mahoutlaw06_PathsWithin.j0 k a0 false))) else (mahoutlaw06_PathsWithin.j0 k a0 false))))) else (some false))
theorem mahoutlaw06_PathsWithin.mono_l : ∀ k, (∀ y0 y1, LeO (mahoutlaw06_PathsWithin.j0 k y0 y1) (mahoutlaw06_PathsWithin.j0 (k + 1) y0 y1))
  | 0 => fun _ _ r h => by simp [mahoutlaw06_PathsWithin.j0] at h
  | k + 1 => by
    have ih0 := mahoutlaw06_PathsWithin.mono_l k
    · intro y0 y1
      unfold mahoutlaw06_PathsWithin.j0
      repeat' first
      | (with_reducible exact ih0 _ _)
      | (with_reducible exact LeO.refl _)
      | (with_reducible exact LeO.none _)
      | (with_reducible refine LeO.ite ?_ ?_)
      | (with_reducible refine LeO.bind ?_ (fun _ => ?_))
      | exact ih0 _ _
      | exact LeO.none _
      | refine LeO.ite ?_ ?_
      | refine LeO.bind ?_ (fun _ => ?_)
theorem mahoutlaw06_PathsWithin.mono : ∀ a0 a1 a2 k, LeO (mahoutlaw06_PathsWithin.f k a0 a1 a2) (mahoutlaw06_PathsWithin.f (k + 1) a0 a1 a2) := by
  intro a0 a1 a2 k
  have ih0 := mahoutlaw06_PathsWithin.mono_l k
  unfold mahoutlaw06_PathsWithin.f
  repeat' first
      | (with_reducible exact ih0 _ _)
      | (with_reducible exact LeO.refl _)
      | (with_reducible exact LeO.none _)
      | (with_reducible refine LeO.ite ?_ ?_)
      | (with_reducible refine LeO.bind ?_ (fun _ => ?_))
      | exact ih0 _ _
      | exact LeO.none _
      | refine LeO.ite ?_ ?_
      | refine LeO.bind ?_ (fun _ => ?_)
set_option maxHeartbeats 8000000 in
set_option maxRecDepth 100000 in
theorem mahoutlaw06_PathsWithin.calls (k : Nat) (a0 : ByteArray) (a1 : ByteArray) (a2 : ByteArray) (r : Bool) (w : World) (h : mahoutlaw06_PathsWithin.f k a0 a1 a2 = some r) :
    Calls Tryd.prog 3 #[.string a0, .string a1, .string a2] w fun e w' => e = .returned (.bool r) ∧ Below w.heap.size w w' := by
  have HB := Aside0.mk (Below.refl w.heap.size w)
  have H : ((mahoutlaw06_speaks.f).bind fun t115 => (if t115 = true then ((paths_Within.f a0 a1).bind fun t116 => (if t116 = true then ((paths_Within.f a1 a2).bind fun t117 => (if t117 = true then ((paths_Within.f a0 a2).bind fun t118 => (if t118 = true then ((paths_Within.f a0 a1).bind fun t119 => (if t119 = true then ((paths_Within.f a1 a0).bind fun t120 => (if t120 = true then (mahoutlaw06_PathsWithin.j0 k a0 (a0.toList != a1.toList)) else (mahoutlaw06_PathsWithin.j0 k a0 false))) else (mahoutlaw06_PathsWithin.j0 k a0 false))) else (mahoutlaw06_PathsWithin.j0 k a0 true))) else ((paths_Within.f a0 a1).bind fun t121 => (if t121 = true then ((paths_Within.f a1 a0).bind fun t122 => (if t122 = true then (mahoutlaw06_PathsWithin.j0 k a0 (a0.toList != a1.toList)) else (mahoutlaw06_PathsWithin.j0 k a0 false))) else (mahoutlaw06_PathsWithin.j0 k a0 false))))) else ((paths_Within.f a0 a1).bind fun t123 => (if t123 = true then ((paths_Within.f a1 a0).bind fun t124 => (if t124 = true then (mahoutlaw06_PathsWithin.j0 k a0 (a0.toList != a1.toList)) else (mahoutlaw06_PathsWithin.j0 k a0 false))) else (mahoutlaw06_PathsWithin.j0 k a0 false))))) else (some false))) = some r := h
  clear h
  replace H := Option.bind_eq_some_iff.mp H
  obtain ⟨t115, A40, H⟩ := H
  replace H : (if t115 = true then ((paths_Within.f a0 a1).bind fun t116 => (if t116 = true then ((paths_Within.f a1 a2).bind fun t117 => (if t117 = true then ((paths_Within.f a0 a2).bind fun t118 => (if t118 = true then ((paths_Within.f a0 a1).bind fun t119 => (if t119 = true then ((paths_Within.f a1 a0).bind fun t120 => (if t120 = true then (mahoutlaw06_PathsWithin.j0 k a0 (a0.toList != a1.toList)) else (mahoutlaw06_PathsWithin.j0 k a0 false))) else (mahoutlaw06_PathsWithin.j0 k a0 false))) else (mahoutlaw06_PathsWithin.j0 k a0 true))) else ((paths_Within.f a0 a1).bind fun t121 => (if t121 = true then ((paths_Within.f a1 a0).bind fun t122 => (if t122 = true then (mahoutlaw06_PathsWithin.j0 k a0 (a0.toList != a1.toList)) else (mahoutlaw06_PathsWithin.j0 k a0 false))) else (mahoutlaw06_PathsWithin.j0 k a0 false))))) else ((paths_Within.f a0 a1).bind fun t123 => (if t123 = true then ((paths_Within.f a1 a0).bind fun t124 => (if t124 = true then (mahoutlaw06_PathsWithin.j0 k a0 (a0.toList != a1.toList)) else (mahoutlaw06_PathsWithin.j0 k a0 false))) else (mahoutlaw06_PathsWithin.j0 k a0 false))))) else (some false)) = some r := H
  have A4 := Aside0.mk A40
  clear A40
  by_cases c5 : t115 = true
  · subst c5
    have H1 : ((paths_Within.f a0 a1).bind fun t116 => (if t116 = true then ((paths_Within.f a1 a2).bind fun t117 => (if t117 = true then ((paths_Within.f a0 a2).bind fun t118 => (if t118 = true then ((paths_Within.f a0 a1).bind fun t119 => (if t119 = true then ((paths_Within.f a1 a0).bind fun t120 => (if t120 = true then (mahoutlaw06_PathsWithin.j0 k a0 (a0.toList != a1.toList)) else (mahoutlaw06_PathsWithin.j0 k a0 false))) else (mahoutlaw06_PathsWithin.j0 k a0 false))) else (mahoutlaw06_PathsWithin.j0 k a0 true))) else ((paths_Within.f a0 a1).bind fun t121 => (if t121 = true then ((paths_Within.f a1 a0).bind fun t122 => (if t122 = true then (mahoutlaw06_PathsWithin.j0 k a0 (a0.toList != a1.toList)) else (mahoutlaw06_PathsWithin.j0 k a0 false))) else (mahoutlaw06_PathsWithin.j0 k a0 false))))) else ((paths_Within.f a0 a1).bind fun t123 => (if t123 = true then ((paths_Within.f a1 a0).bind fun t124 => (if t124 = true then (mahoutlaw06_PathsWithin.j0 k a0 (a0.toList != a1.toList)) else (mahoutlaw06_PathsWithin.j0 k a0 false))) else (mahoutlaw06_PathsWithin.j0 k a0 false))))) = some r := by rw [if_pos rfl] at H; exact H
    clear H
    have H := H1
    clear H1
    have HC6 := Aside0.mk H
    clear H
    go_enter Tryd.func3, Tryd.ntmps3
    go_upto_region 3 with (first | ((with_reducible refine gate_callee (f := 8) rfl ?_); refine goesL_ (some 7) rfl rfl Tryd.func8 (by kernel_rfl) rfl #[] rfl (by (try simp only [List.map_toArray, List.map_cons, List.map_nil]); first | done | rfl | (simp only [List.length_drop, List.length_take]; rfl)) ?_; (with_reducible refine (mahoutlaw06_speaks.calls  true _ A4.out).mono ?_); rintro e w7 ⟨rfl, hb⟩; refine ⟨_, rfl, ?_⟩; have n0_ := Aside0.mk (below_step (by repeat (first | (with_reducible first | exact HB.out | apply below_alloc | apply pw_below_drewN | apply below_drew1) | exact HB.out)) hb); clear HB; have HB := n0_; clear n0_; (try clear hb); (try clear hb2); (try clear hk); (try clear hi)))
    (try simp only [Act.put, List.setIfInBounds_toArray, List.set_cons_zero, List.set_cons_succ])
    go_cut [37] (fun v37 wc => ∃ (kq : Nat) (x37_5 : Bool), v37 = .bool x37_5 ∧ Aside0 (mahoutlaw06_PathsWithin.j0 kq a0 x37_5 = some r) ∧ Aside0 (kq ≤ k) ∧ Aside0 (Below w.heap.size w wc))
    case first =>
      have H := HC6.out
      clear HC6
      replace H := Option.bind_eq_some_iff.mp H
      obtain ⟨t116, A80, H⟩ := H
      replace H : (if t116 = true then ((paths_Within.f a1 a2).bind fun t117 => (if t117 = true then ((paths_Within.f a0 a2).bind fun t118 => (if t118 = true then ((paths_Within.f a0 a1).bind fun t119 => (if t119 = true then ((paths_Within.f a1 a0).bind fun t120 => (if t120 = true then (mahoutlaw06_PathsWithin.j0 k a0 (a0.toList != a1.toList)) else (mahoutlaw06_PathsWithin.j0 k a0 false))) else (mahoutlaw06_PathsWithin.j0 k a0 false))) else (mahoutlaw06_PathsWithin.j0 k a0 true))) else ((paths_Within.f a0 a1).bind fun t121 => (if t121 = true then ((paths_Within.f a1 a0).bind fun t122 => (if t122 = true then (mahoutlaw06_PathsWithin.j0 k a0 (a0.toList != a1.toList)) else (mahoutlaw06_PathsWithin.j0 k a0 false))) else (mahoutlaw06_PathsWithin.j0 k a0 false))))) else ((paths_Within.f a0 a1).bind fun t123 => (if t123 = true then ((paths_Within.f a1 a0).bind fun t124 => (if t124 = true then (mahoutlaw06_PathsWithin.j0 k a0 (a0.toList != a1.toList)) else (mahoutlaw06_PathsWithin.j0 k a0 false))) else (mahoutlaw06_PathsWithin.j0 k a0 false)))) = some r := H
      have A8 := Aside0.mk A80
      clear A80
      by_cases c9 : t116 = true
      · subst c9
        have H1 : ((paths_Within.f a1 a2).bind fun t117 => (if t117 = true then ((paths_Within.f a0 a2).bind fun t118 => (if t118 = true then ((paths_Within.f a0 a1).bind fun t119 => (if t119 = true then ((paths_Within.f a1 a0).bind fun t120 => (if t120 = true then (mahoutlaw06_PathsWithin.j0 k a0 (a0.toList != a1.toList)) else (mahoutlaw06_PathsWithin.j0 k a0 false))) else (mahoutlaw06_PathsWithin.j0 k a0 false))) else (mahoutlaw06_PathsWithin.j0 k a0 true))) else ((paths_Within.f a0 a1).bind fun t121 => (if t121 = true then ((paths_Within.f a1 a0).bind fun t122 => (if t122 = true then (mahoutlaw06_PathsWithin.j0 k a0 (a0.toList != a1.toList)) else (mahoutlaw06_PathsWithin.j0 k a0 false))) else (mahoutlaw06_PathsWithin.j0 k a0 false))))) = some r := by rw [if_pos rfl] at H; exact H
        clear H
        have H := H1
        clear H1
        replace H := Option.bind_eq_some_iff.mp H
        obtain ⟨t117, A100, H⟩ := H
        replace H : (if t117 = true then ((paths_Within.f a0 a2).bind fun t118 => (if t118 = true then ((paths_Within.f a0 a1).bind fun t119 => (if t119 = true then ((paths_Within.f a1 a0).bind fun t120 => (if t120 = true then (mahoutlaw06_PathsWithin.j0 k a0 (a0.toList != a1.toList)) else (mahoutlaw06_PathsWithin.j0 k a0 false))) else (mahoutlaw06_PathsWithin.j0 k a0 false))) else (mahoutlaw06_PathsWithin.j0 k a0 true))) else ((paths_Within.f a0 a1).bind fun t121 => (if t121 = true then ((paths_Within.f a1 a0).bind fun t122 => (if t122 = true then (mahoutlaw06_PathsWithin.j0 k a0 (a0.toList != a1.toList)) else (mahoutlaw06_PathsWithin.j0 k a0 false))) else (mahoutlaw06_PathsWithin.j0 k a0 false)))) = some r := H
        have A10 := Aside0.mk A100
        clear A100
        by_cases c11 : t117 = true
        · subst c11
          have H1 : ((paths_Within.f a0 a2).bind fun t118 => (if t118 = true then ((paths_Within.f a0 a1).bind fun t119 => (if t119 = true then ((paths_Within.f a1 a0).bind fun t120 => (if t120 = true then (mahoutlaw06_PathsWithin.j0 k a0 (a0.toList != a1.toList)) else (mahoutlaw06_PathsWithin.j0 k a0 false))) else (mahoutlaw06_PathsWithin.j0 k a0 false))) else (mahoutlaw06_PathsWithin.j0 k a0 true))) = some r := by rw [if_pos rfl] at H; exact H
          clear H
          have H := H1
          clear H1
          replace H := Option.bind_eq_some_iff.mp H
          obtain ⟨t118, A120, H⟩ := H
          replace H : (if t118 = true then ((paths_Within.f a0 a1).bind fun t119 => (if t119 = true then ((paths_Within.f a1 a0).bind fun t120 => (if t120 = true then (mahoutlaw06_PathsWithin.j0 k a0 (a0.toList != a1.toList)) else (mahoutlaw06_PathsWithin.j0 k a0 false))) else (mahoutlaw06_PathsWithin.j0 k a0 false))) else (mahoutlaw06_PathsWithin.j0 k a0 true)) = some r := H
          have A12 := Aside0.mk A120
          clear A120
          by_cases c13 : t118 = true
          · subst c13
            have H1 : ((paths_Within.f a0 a1).bind fun t119 => (if t119 = true then ((paths_Within.f a1 a0).bind fun t120 => (if t120 = true then (mahoutlaw06_PathsWithin.j0 k a0 (a0.toList != a1.toList)) else (mahoutlaw06_PathsWithin.j0 k a0 false))) else (mahoutlaw06_PathsWithin.j0 k a0 false))) = some r := by rw [if_pos rfl] at H; exact H
            clear H
            have H := H1
            clear H1
            replace H := Option.bind_eq_some_iff.mp H
            obtain ⟨t119, A140, H⟩ := H
            replace H : (if t119 = true then ((paths_Within.f a1 a0).bind fun t120 => (if t120 = true then (mahoutlaw06_PathsWithin.j0 k a0 (a0.toList != a1.toList)) else (mahoutlaw06_PathsWithin.j0 k a0 false))) else (mahoutlaw06_PathsWithin.j0 k a0 false)) = some r := H
            have A14 := Aside0.mk A140
            clear A140
            by_cases c15 : t119 = true
            · subst c15
              have H1 : ((paths_Within.f a1 a0).bind fun t120 => (if t120 = true then (mahoutlaw06_PathsWithin.j0 k a0 (a0.toList != a1.toList)) else (mahoutlaw06_PathsWithin.j0 k a0 false))) = some r := by rw [if_pos rfl] at H; exact H
              clear H
              have H := H1
              clear H1
              replace H := Option.bind_eq_some_iff.mp H
              obtain ⟨t120, A160, H⟩ := H
              replace H : (if t120 = true then (mahoutlaw06_PathsWithin.j0 k a0 (a0.toList != a1.toList)) else (mahoutlaw06_PathsWithin.j0 k a0 false)) = some r := H
              have A16 := Aside0.mk A160
              clear A160
              by_cases c17 : t120 = true
              · subst c17
                have H1 : (mahoutlaw06_PathsWithin.j0 k a0 (a0.toList != a1.toList)) = some r := by rw [if_pos rfl] at H; exact H
                clear H
                have H := H1
                clear H1
                have H' := Aside0.mk H
                clear H
                go_wp2_with (first | ((with_reducible refine gate_callee (f := 9) rfl ?_); refine goesL_ (some 11) rfl rfl Tryd.func9 (by kernel_rfl) rfl #[.string a0, .string a1] rfl (by (try simp only [List.map_toArray, List.map_cons, List.map_nil]); first | done | rfl | (simp only [List.length_drop, List.length_take]; rfl)) ?_; (with_reducible refine (paths_Within.calls a0 a1 true _ A8.out).mono ?_); rintro e w18 ⟨rfl, hb⟩; refine ⟨_, rfl, ?_⟩; have n0_ := Aside0.mk (below_step (by repeat (first | (with_reducible first | exact HB.out | apply below_alloc | apply pw_below_drewN | apply below_drew1) | exact HB.out)) hb); clear HB; have HB := n0_; clear n0_; (try clear hb); (try clear hb2); (try clear hk); (try clear hi)) | (go_at_call 9; (with_reducible refine (paths_Within.calls a1 a2 true _ A10.out).mono ?_); rintro e w19 ⟨rfl, hb⟩; have n0_ := Aside0.mk (below_step (by repeat (first | (with_reducible first | exact HB.out | apply below_alloc | apply pw_below_drewN | apply below_drew1) | exact HB.out)) hb); clear HB; have HB := n0_; clear n0_; (try clear hb); (try clear hb2); (try clear hk); (try clear hi)) | (go_at_call 9; (with_reducible refine (paths_Within.calls a0 a2 true _ A12.out).mono ?_); rintro e w20 ⟨rfl, hb⟩; have n0_ := Aside0.mk (below_step (by repeat (first | (with_reducible first | exact HB.out | apply below_alloc | apply pw_below_drewN | apply below_drew1) | exact HB.out)) hb); clear HB; have HB := n0_; clear n0_; (try clear hb); (try clear hb2); (try clear hk); (try clear hi)) | (go_at_call 9; (with_reducible refine (paths_Within.calls a0 a1 true _ A14.out).mono ?_); rintro e w21 ⟨rfl, hb⟩; have n0_ := Aside0.mk (below_step (by repeat (first | (with_reducible first | exact HB.out | apply below_alloc | apply pw_below_drewN | apply below_drew1) | exact HB.out)) hb); clear HB; have HB := n0_; clear n0_; (try clear hb); (try clear hb2); (try clear hk); (try clear hi)) | (go_at_call 9; (with_reducible refine (paths_Within.calls a1 a0 true _ A16.out).mono ?_); rintro e w22 ⟨rfl, hb⟩; have n0_ := Aside0.mk (below_step (by repeat (first | (with_reducible first | exact HB.out | apply below_alloc | apply pw_below_drewN | apply below_drew1) | exact HB.out)) hb); clear HB; have HB := n0_; clear n0_; (try clear hb); (try clear hb2); (try clear hk); (try clear hi)))
                go_meet
                case rel => exact ⟨_, ((a0.toList != a1.toList)), (by first | rfl | (simp; done) | (simp [*]; done)), H', ⟨by first | omega | exact Nat.le_refl _⟩, ⟨by repeat (first | (with_reducible first | exact HB.out | apply below_alloc | apply pw_below_drewN | apply below_drew1) | exact HB.out)⟩⟩
              · replace c17 := Bool.eq_false_iff.mpr c17
                subst c17
                have H1 : (mahoutlaw06_PathsWithin.j0 k a0 false) = some r := by rw [if_neg (show ¬ (false = true) by decide)] at H; exact H
                clear H
                have H := H1
                clear H1
                have H' := Aside0.mk H
                clear H
                go_wp2_with (first | ((with_reducible refine gate_callee (f := 9) rfl ?_); refine goesL_ (some 11) rfl rfl Tryd.func9 (by kernel_rfl) rfl #[.string a0, .string a1] rfl (by (try simp only [List.map_toArray, List.map_cons, List.map_nil]); first | done | rfl | (simp only [List.length_drop, List.length_take]; rfl)) ?_; (with_reducible refine (paths_Within.calls a0 a1 true _ A8.out).mono ?_); rintro e w23 ⟨rfl, hb⟩; refine ⟨_, rfl, ?_⟩; have n0_ := Aside0.mk (below_step (by repeat (first | (with_reducible first | exact HB.out | apply below_alloc | apply pw_below_drewN | apply below_drew1) | exact HB.out)) hb); clear HB; have HB := n0_; clear n0_; (try clear hb); (try clear hb2); (try clear hk); (try clear hi)) | (go_at_call 9; (with_reducible refine (paths_Within.calls a1 a2 true _ A10.out).mono ?_); rintro e w24 ⟨rfl, hb⟩; have n0_ := Aside0.mk (below_step (by repeat (first | (with_reducible first | exact HB.out | apply below_alloc | apply pw_below_drewN | apply below_drew1) | exact HB.out)) hb); clear HB; have HB := n0_; clear n0_; (try clear hb); (try clear hb2); (try clear hk); (try clear hi)) | (go_at_call 9; (with_reducible refine (paths_Within.calls a0 a2 true _ A12.out).mono ?_); rintro e w25 ⟨rfl, hb⟩; have n0_ := Aside0.mk (below_step (by repeat (first | (with_reducible first | exact HB.out | apply below_alloc | apply pw_below_drewN | apply below_drew1) | exact HB.out)) hb); clear HB; have HB := n0_; clear n0_; (try clear hb); (try clear hb2); (try clear hk); (try clear hi)) | (go_at_call 9; (with_reducible refine (paths_Within.calls a0 a1 true _ A14.out).mono ?_); rintro e w26 ⟨rfl, hb⟩; have n0_ := Aside0.mk (below_step (by repeat (first | (with_reducible first | exact HB.out | apply below_alloc | apply pw_below_drewN | apply below_drew1) | exact HB.out)) hb); clear HB; have HB := n0_; clear n0_; (try clear hb); (try clear hb2); (try clear hk); (try clear hi)) | (go_at_call 9; (with_reducible refine (paths_Within.calls a1 a0 false _ A16.out).mono ?_); rintro e w27 ⟨rfl, hb⟩; have n0_ := Aside0.mk (below_step (by repeat (first | (with_reducible first | exact HB.out | apply below_alloc | apply pw_below_drewN | apply below_drew1) | exact HB.out)) hb); clear HB; have HB := n0_; clear n0_; (try clear hb); (try clear hb2); (try clear hk); (try clear hi)))
                go_meet
                case rel => exact ⟨_, (false), (by first | rfl | (simp; done) | (simp [*]; done)), H', ⟨by first | omega | exact Nat.le_refl _⟩, ⟨by repeat (first | (with_reducible first | exact HB.out | apply below_alloc | apply pw_below_drewN | apply below_drew1) | exact HB.out)⟩⟩
            · replace c15 := Bool.eq_false_iff.mpr c15
              subst c15
              have H1 : (mahoutlaw06_PathsWithin.j0 k a0 false) = some r := by rw [if_neg (show ¬ (false = true) by decide)] at H; exact H
              clear H
              have H := H1
              clear H1
              have H' := Aside0.mk H
              clear H
              go_wp2_with (first | ((with_reducible refine gate_callee (f := 9) rfl ?_); refine goesL_ (some 11) rfl rfl Tryd.func9 (by kernel_rfl) rfl #[.string a0, .string a1] rfl (by (try simp only [List.map_toArray, List.map_cons, List.map_nil]); first | done | rfl | (simp only [List.length_drop, List.length_take]; rfl)) ?_; (with_reducible refine (paths_Within.calls a0 a1 true _ A8.out).mono ?_); rintro e w28 ⟨rfl, hb⟩; refine ⟨_, rfl, ?_⟩; have n0_ := Aside0.mk (below_step (by repeat (first | (with_reducible first | exact HB.out | apply below_alloc | apply pw_below_drewN | apply below_drew1) | exact HB.out)) hb); clear HB; have HB := n0_; clear n0_; (try clear hb); (try clear hb2); (try clear hk); (try clear hi)) | (go_at_call 9; (with_reducible refine (paths_Within.calls a1 a2 true _ A10.out).mono ?_); rintro e w29 ⟨rfl, hb⟩; have n0_ := Aside0.mk (below_step (by repeat (first | (with_reducible first | exact HB.out | apply below_alloc | apply pw_below_drewN | apply below_drew1) | exact HB.out)) hb); clear HB; have HB := n0_; clear n0_; (try clear hb); (try clear hb2); (try clear hk); (try clear hi)) | (go_at_call 9; (with_reducible refine (paths_Within.calls a0 a2 true _ A12.out).mono ?_); rintro e w30 ⟨rfl, hb⟩; have n0_ := Aside0.mk (below_step (by repeat (first | (with_reducible first | exact HB.out | apply below_alloc | apply pw_below_drewN | apply below_drew1) | exact HB.out)) hb); clear HB; have HB := n0_; clear n0_; (try clear hb); (try clear hb2); (try clear hk); (try clear hi)) | (go_at_call 9; (with_reducible refine (paths_Within.calls a0 a1 false _ A14.out).mono ?_); rintro e w31 ⟨rfl, hb⟩; have n0_ := Aside0.mk (below_step (by repeat (first | (with_reducible first | exact HB.out | apply below_alloc | apply pw_below_drewN | apply below_drew1) | exact HB.out)) hb); clear HB; have HB := n0_; clear n0_; (try clear hb); (try clear hb2); (try clear hk); (try clear hi)))
              go_meet
              case rel => exact ⟨_, (false), (by first | rfl | (simp; done) | (simp [*]; done)), H', ⟨by first | omega | exact Nat.le_refl _⟩, ⟨by repeat (first | (with_reducible first | exact HB.out | apply below_alloc | apply pw_below_drewN | apply below_drew1) | exact HB.out)⟩⟩
          · replace c13 := Bool.eq_false_iff.mpr c13
            subst c13
            have H1 : (mahoutlaw06_PathsWithin.j0 k a0 true) = some r := by rw [if_neg (show ¬ (false = true) by decide)] at H; exact H
            clear H
            have H := H1
            clear H1
            have H' := Aside0.mk H
            clear H
            go_wp2_with (first | ((with_reducible refine gate_callee (f := 9) rfl ?_); refine goesL_ (some 11) rfl rfl Tryd.func9 (by kernel_rfl) rfl #[.string a0, .string a1] rfl (by (try simp only [List.map_toArray, List.map_cons, List.map_nil]); first | done | rfl | (simp only [List.length_drop, List.length_take]; rfl)) ?_; (with_reducible refine (paths_Within.calls a0 a1 true _ A8.out).mono ?_); rintro e w32 ⟨rfl, hb⟩; refine ⟨_, rfl, ?_⟩; have n0_ := Aside0.mk (below_step (by repeat (first | (with_reducible first | exact HB.out | apply below_alloc | apply pw_below_drewN | apply below_drew1) | exact HB.out)) hb); clear HB; have HB := n0_; clear n0_; (try clear hb); (try clear hb2); (try clear hk); (try clear hi)) | (go_at_call 9; (with_reducible refine (paths_Within.calls a1 a2 true _ A10.out).mono ?_); rintro e w33 ⟨rfl, hb⟩; have n0_ := Aside0.mk (below_step (by repeat (first | (with_reducible first | exact HB.out | apply below_alloc | apply pw_below_drewN | apply below_drew1) | exact HB.out)) hb); clear HB; have HB := n0_; clear n0_; (try clear hb); (try clear hb2); (try clear hk); (try clear hi)) | (go_at_call 9; (with_reducible refine (paths_Within.calls a0 a2 false _ A12.out).mono ?_); rintro e w34 ⟨rfl, hb⟩; have n0_ := Aside0.mk (below_step (by repeat (first | (with_reducible first | exact HB.out | apply below_alloc | apply pw_below_drewN | apply below_drew1) | exact HB.out)) hb); clear HB; have HB := n0_; clear n0_; (try clear hb); (try clear hb2); (try clear hk); (try clear hi)))
            go_meet
            case rel => exact ⟨_, (true), (by first | rfl | (simp; done) | (simp [*]; done)), H', ⟨by first | omega | exact Nat.le_refl _⟩, ⟨by repeat (first | (with_reducible first | exact HB.out | apply below_alloc | apply pw_below_drewN | apply below_drew1) | exact HB.out)⟩⟩
        · replace c11 := Bool.eq_false_iff.mpr c11
          subst c11
          have H1 : ((paths_Within.f a0 a1).bind fun t121 => (if t121 = true then ((paths_Within.f a1 a0).bind fun t122 => (if t122 = true then (mahoutlaw06_PathsWithin.j0 k a0 (a0.toList != a1.toList)) else (mahoutlaw06_PathsWithin.j0 k a0 false))) else (mahoutlaw06_PathsWithin.j0 k a0 false))) = some r := by rw [if_neg (show ¬ (false = true) by decide)] at H; exact H
          clear H
          have H := H1
          clear H1
          replace H := Option.bind_eq_some_iff.mp H
          obtain ⟨t121, A350, H⟩ := H
          replace H : (if t121 = true then ((paths_Within.f a1 a0).bind fun t122 => (if t122 = true then (mahoutlaw06_PathsWithin.j0 k a0 (a0.toList != a1.toList)) else (mahoutlaw06_PathsWithin.j0 k a0 false))) else (mahoutlaw06_PathsWithin.j0 k a0 false)) = some r := H
          have A35 := Aside0.mk A350
          clear A350
          by_cases c36 : t121 = true
          · subst c36
            have H1 : ((paths_Within.f a1 a0).bind fun t122 => (if t122 = true then (mahoutlaw06_PathsWithin.j0 k a0 (a0.toList != a1.toList)) else (mahoutlaw06_PathsWithin.j0 k a0 false))) = some r := by rw [if_pos rfl] at H; exact H
            clear H
            have H := H1
            clear H1
            replace H := Option.bind_eq_some_iff.mp H
            obtain ⟨t122, A370, H⟩ := H
            replace H : (if t122 = true then (mahoutlaw06_PathsWithin.j0 k a0 (a0.toList != a1.toList)) else (mahoutlaw06_PathsWithin.j0 k a0 false)) = some r := H
            have A37 := Aside0.mk A370
            clear A370
            by_cases c38 : t122 = true
            · subst c38
              have H1 : (mahoutlaw06_PathsWithin.j0 k a0 (a0.toList != a1.toList)) = some r := by rw [if_pos rfl] at H; exact H
              clear H
              have H := H1
              clear H1
              have H' := Aside0.mk H
              clear H
              go_wp2_with (first | ((with_reducible refine gate_callee (f := 9) rfl ?_); refine goesL_ (some 11) rfl rfl Tryd.func9 (by kernel_rfl) rfl #[.string a0, .string a1] rfl (by (try simp only [List.map_toArray, List.map_cons, List.map_nil]); first | done | rfl | (simp only [List.length_drop, List.length_take]; rfl)) ?_; (with_reducible refine (paths_Within.calls a0 a1 true _ A8.out).mono ?_); rintro e w39 ⟨rfl, hb⟩; refine ⟨_, rfl, ?_⟩; have n0_ := Aside0.mk (below_step (by repeat (first | (with_reducible first | exact HB.out | apply below_alloc | apply pw_below_drewN | apply below_drew1) | exact HB.out)) hb); clear HB; have HB := n0_; clear n0_; (try clear hb); (try clear hb2); (try clear hk); (try clear hi)) | (go_at_call 9; (with_reducible refine (paths_Within.calls a1 a2 false _ A10.out).mono ?_); rintro e w40 ⟨rfl, hb⟩; have n0_ := Aside0.mk (below_step (by repeat (first | (with_reducible first | exact HB.out | apply below_alloc | apply pw_below_drewN | apply below_drew1) | exact HB.out)) hb); clear HB; have HB := n0_; clear n0_; (try clear hb); (try clear hb2); (try clear hk); (try clear hi)) | (go_at_call 9; (with_reducible refine (paths_Within.calls a0 a1 true _ A35.out).mono ?_); rintro e w41 ⟨rfl, hb⟩; have n0_ := Aside0.mk (below_step (by repeat (first | (with_reducible first | exact HB.out | apply below_alloc | apply pw_below_drewN | apply below_drew1) | exact HB.out)) hb); clear HB; have HB := n0_; clear n0_; (try clear hb); (try clear hb2); (try clear hk); (try clear hi)) | (go_at_call 9; (with_reducible refine (paths_Within.calls a1 a0 true _ A37.out).mono ?_); rintro e w42 ⟨rfl, hb⟩; have n0_ := Aside0.mk (below_step (by repeat (first | (with_reducible first | exact HB.out | apply below_alloc | apply pw_below_drewN | apply below_drew1) | exact HB.out)) hb); clear HB; have HB := n0_; clear n0_; (try clear hb); (try clear hb2); (try clear hk); (try clear hi)))
              go_meet
              case rel => exact ⟨_, ((a0.toList != a1.toList)), (by first | rfl | (simp; done) | (simp [*]; done)), H', ⟨by first | omega | exact Nat.le_refl _⟩, ⟨by repeat (first | (with_reducible first | exact HB.out | apply below_alloc | apply pw_below_drewN | apply below_drew1) | exact HB.out)⟩⟩
            · replace c38 := Bool.eq_false_iff.mpr c38
              subst c38
              have H1 : (mahoutlaw06_PathsWithin.j0 k a0 false) = some r := by rw [if_neg (show ¬ (false = true) by decide)] at H; exact H
              clear H
              have H := H1
              clear H1
              have H' := Aside0.mk H
              clear H
              go_wp2_with (first | ((with_reducible refine gate_callee (f := 9) rfl ?_); refine goesL_ (some 11) rfl rfl Tryd.func9 (by kernel_rfl) rfl #[.string a0, .string a1] rfl (by (try simp only [List.map_toArray, List.map_cons, List.map_nil]); first | done | rfl | (simp only [List.length_drop, List.length_take]; rfl)) ?_; (with_reducible refine (paths_Within.calls a0 a1 true _ A8.out).mono ?_); rintro e w43 ⟨rfl, hb⟩; refine ⟨_, rfl, ?_⟩; have n0_ := Aside0.mk (below_step (by repeat (first | (with_reducible first | exact HB.out | apply below_alloc | apply pw_below_drewN | apply below_drew1) | exact HB.out)) hb); clear HB; have HB := n0_; clear n0_; (try clear hb); (try clear hb2); (try clear hk); (try clear hi)) | (go_at_call 9; (with_reducible refine (paths_Within.calls a1 a2 false _ A10.out).mono ?_); rintro e w44 ⟨rfl, hb⟩; have n0_ := Aside0.mk (below_step (by repeat (first | (with_reducible first | exact HB.out | apply below_alloc | apply pw_below_drewN | apply below_drew1) | exact HB.out)) hb); clear HB; have HB := n0_; clear n0_; (try clear hb); (try clear hb2); (try clear hk); (try clear hi)) | (go_at_call 9; (with_reducible refine (paths_Within.calls a0 a1 true _ A35.out).mono ?_); rintro e w45 ⟨rfl, hb⟩; have n0_ := Aside0.mk (below_step (by repeat (first | (with_reducible first | exact HB.out | apply below_alloc | apply pw_below_drewN | apply below_drew1) | exact HB.out)) hb); clear HB; have HB := n0_; clear n0_; (try clear hb); (try clear hb2); (try clear hk); (try clear hi)) | (go_at_call 9; (with_reducible refine (paths_Within.calls a1 a0 false _ A37.out).mono ?_); rintro e w46 ⟨rfl, hb⟩; have n0_ := Aside0.mk (below_step (by repeat (first | (with_reducible first | exact HB.out | apply below_alloc | apply pw_below_drewN | apply below_drew1) | exact HB.out)) hb); clear HB; have HB := n0_; clear n0_; (try clear hb); (try clear hb2); (try clear hk); (try clear hi)))
              go_meet
              case rel => exact ⟨_, (false), (by first | rfl | (simp; done) | (simp [*]; done)), H', ⟨by first | omega | exact Nat.le_refl _⟩, ⟨by repeat (first | (with_reducible first | exact HB.out | apply below_alloc | apply pw_below_drewN | apply below_drew1) | exact HB.out)⟩⟩
          · replace c36 := Bool.eq_false_iff.mpr c36
            subst c36
            have H1 : (mahoutlaw06_PathsWithin.j0 k a0 false) = some r := by rw [if_neg (show ¬ (false = true) by decide)] at H; exact H
            clear H
            have H := H1
            clear H1
            have H' := Aside0.mk H
            clear H
            go_wp2_with (first | ((with_reducible refine gate_callee (f := 9) rfl ?_); refine goesL_ (some 11) rfl rfl Tryd.func9 (by kernel_rfl) rfl #[.string a0, .string a1] rfl (by (try simp only [List.map_toArray, List.map_cons, List.map_nil]); first | done | rfl | (simp only [List.length_drop, List.length_take]; rfl)) ?_; (with_reducible refine (paths_Within.calls a0 a1 true _ A8.out).mono ?_); rintro e w47 ⟨rfl, hb⟩; refine ⟨_, rfl, ?_⟩; have n0_ := Aside0.mk (below_step (by repeat (first | (with_reducible first | exact HB.out | apply below_alloc | apply pw_below_drewN | apply below_drew1) | exact HB.out)) hb); clear HB; have HB := n0_; clear n0_; (try clear hb); (try clear hb2); (try clear hk); (try clear hi)) | (go_at_call 9; (with_reducible refine (paths_Within.calls a1 a2 false _ A10.out).mono ?_); rintro e w48 ⟨rfl, hb⟩; have n0_ := Aside0.mk (below_step (by repeat (first | (with_reducible first | exact HB.out | apply below_alloc | apply pw_below_drewN | apply below_drew1) | exact HB.out)) hb); clear HB; have HB := n0_; clear n0_; (try clear hb); (try clear hb2); (try clear hk); (try clear hi)) | (go_at_call 9; (with_reducible refine (paths_Within.calls a0 a1 false _ A35.out).mono ?_); rintro e w49 ⟨rfl, hb⟩; have n0_ := Aside0.mk (below_step (by repeat (first | (with_reducible first | exact HB.out | apply below_alloc | apply pw_below_drewN | apply below_drew1) | exact HB.out)) hb); clear HB; have HB := n0_; clear n0_; (try clear hb); (try clear hb2); (try clear hk); (try clear hi)))
            go_meet
            case rel => exact ⟨_, (false), (by first | rfl | (simp; done) | (simp [*]; done)), H', ⟨by first | omega | exact Nat.le_refl _⟩, ⟨by repeat (first | (with_reducible first | exact HB.out | apply below_alloc | apply pw_below_drewN | apply below_drew1) | exact HB.out)⟩⟩
      · replace c9 := Bool.eq_false_iff.mpr c9
        subst c9
        have H1 : ((paths_Within.f a0 a1).bind fun t123 => (if t123 = true then ((paths_Within.f a1 a0).bind fun t124 => (if t124 = true then (mahoutlaw06_PathsWithin.j0 k a0 (a0.toList != a1.toList)) else (mahoutlaw06_PathsWithin.j0 k a0 false))) else (mahoutlaw06_PathsWithin.j0 k a0 false))) = some r := by rw [if_neg (show ¬ (false = true) by decide)] at H; exact H
        clear H
        have H := H1
        clear H1
        replace H := Option.bind_eq_some_iff.mp H
        obtain ⟨t123, A500, H⟩ := H
        replace H : (if t123 = true then ((paths_Within.f a1 a0).bind fun t124 => (if t124 = true then (mahoutlaw06_PathsWithin.j0 k a0 (a0.toList != a1.toList)) else (mahoutlaw06_PathsWithin.j0 k a0 false))) else (mahoutlaw06_PathsWithin.j0 k a0 false)) = some r := H
        have A50 := Aside0.mk A500
        clear A500
        by_cases c51 : t123 = true
        · subst c51
          have H1 : ((paths_Within.f a1 a0).bind fun t124 => (if t124 = true then (mahoutlaw06_PathsWithin.j0 k a0 (a0.toList != a1.toList)) else (mahoutlaw06_PathsWithin.j0 k a0 false))) = some r := by rw [if_pos rfl] at H; exact H
          clear H
          have H := H1
          clear H1
          replace H := Option.bind_eq_some_iff.mp H
          obtain ⟨t124, A520, H⟩ := H
          replace H : (if t124 = true then (mahoutlaw06_PathsWithin.j0 k a0 (a0.toList != a1.toList)) else (mahoutlaw06_PathsWithin.j0 k a0 false)) = some r := H
          have A52 := Aside0.mk A520
          clear A520
          by_cases c53 : t124 = true
          · subst c53
            have H1 : (mahoutlaw06_PathsWithin.j0 k a0 (a0.toList != a1.toList)) = some r := by rw [if_pos rfl] at H; exact H
            clear H
            have H := H1
            clear H1
            have H' := Aside0.mk H
            clear H
            go_wp2_with (first | ((with_reducible refine gate_callee (f := 9) rfl ?_); refine goesL_ (some 11) rfl rfl Tryd.func9 (by kernel_rfl) rfl #[.string a0, .string a1] rfl (by (try simp only [List.map_toArray, List.map_cons, List.map_nil]); first | done | rfl | (simp only [List.length_drop, List.length_take]; rfl)) ?_; (with_reducible refine (paths_Within.calls a0 a1 false _ A8.out).mono ?_); rintro e w54 ⟨rfl, hb⟩; refine ⟨_, rfl, ?_⟩; have n0_ := Aside0.mk (below_step (by repeat (first | (with_reducible first | exact HB.out | apply below_alloc | apply pw_below_drewN | apply below_drew1) | exact HB.out)) hb); clear HB; have HB := n0_; clear n0_; (try clear hb); (try clear hb2); (try clear hk); (try clear hi)) | (go_at_call 9; (with_reducible refine (paths_Within.calls a0 a1 true _ A50.out).mono ?_); rintro e w55 ⟨rfl, hb⟩; have n0_ := Aside0.mk (below_step (by repeat (first | (with_reducible first | exact HB.out | apply below_alloc | apply pw_below_drewN | apply below_drew1) | exact HB.out)) hb); clear HB; have HB := n0_; clear n0_; (try clear hb); (try clear hb2); (try clear hk); (try clear hi)) | (go_at_call 9; (with_reducible refine (paths_Within.calls a1 a0 true _ A52.out).mono ?_); rintro e w56 ⟨rfl, hb⟩; have n0_ := Aside0.mk (below_step (by repeat (first | (with_reducible first | exact HB.out | apply below_alloc | apply pw_below_drewN | apply below_drew1) | exact HB.out)) hb); clear HB; have HB := n0_; clear n0_; (try clear hb); (try clear hb2); (try clear hk); (try clear hi)))
            go_meet
            case rel => exact ⟨_, ((a0.toList != a1.toList)), (by first | rfl | (simp; done) | (simp [*]; done)), H', ⟨by first | omega | exact Nat.le_refl _⟩, ⟨by repeat (first | (with_reducible first | exact HB.out | apply below_alloc | apply pw_below_drewN | apply below_drew1) | exact HB.out)⟩⟩
          · replace c53 := Bool.eq_false_iff.mpr c53
            subst c53
            have H1 : (mahoutlaw06_PathsWithin.j0 k a0 false) = some r := by rw [if_neg (show ¬ (false = true) by decide)] at H; exact H
            clear H
            have H := H1
            clear H1
            have H' := Aside0.mk H
            clear H
            go_wp2_with (first | ((with_reducible refine gate_callee (f := 9) rfl ?_); refine goesL_ (some 11) rfl rfl Tryd.func9 (by kernel_rfl) rfl #[.string a0, .string a1] rfl (by (try simp only [List.map_toArray, List.map_cons, List.map_nil]); first | done | rfl | (simp only [List.length_drop, List.length_take]; rfl)) ?_; (with_reducible refine (paths_Within.calls a0 a1 false _ A8.out).mono ?_); rintro e w57 ⟨rfl, hb⟩; refine ⟨_, rfl, ?_⟩; have n0_ := Aside0.mk (below_step (by repeat (first | (with_reducible first | exact HB.out | apply below_alloc | apply pw_below_drewN | apply below_drew1) | exact HB.out)) hb); clear HB; have HB := n0_; clear n0_; (try clear hb); (try clear hb2); (try clear hk); (try clear hi)) | (go_at_call 9; (with_reducible refine (paths_Within.calls a0 a1 true _ A50.out).mono ?_); rintro e w58 ⟨rfl, hb⟩; have n0_ := Aside0.mk (below_step (by repeat (first | (with_reducible first | exact HB.out | apply below_alloc | apply pw_below_drewN | apply below_drew1) | exact HB.out)) hb); clear HB; have HB := n0_; clear n0_; (try clear hb); (try clear hb2); (try clear hk); (try clear hi)) | (go_at_call 9; (with_reducible refine (paths_Within.calls a1 a0 false _ A52.out).mono ?_); rintro e w59 ⟨rfl, hb⟩; have n0_ := Aside0.mk (below_step (by repeat (first | (with_reducible first | exact HB.out | apply below_alloc | apply pw_below_drewN | apply below_drew1) | exact HB.out)) hb); clear HB; have HB := n0_; clear n0_; (try clear hb); (try clear hb2); (try clear hk); (try clear hi)))
            go_meet
            case rel => exact ⟨_, (false), (by first | rfl | (simp; done) | (simp [*]; done)), H', ⟨by first | omega | exact Nat.le_refl _⟩, ⟨by repeat (first | (with_reducible first | exact HB.out | apply below_alloc | apply pw_below_drewN | apply below_drew1) | exact HB.out)⟩⟩
        · replace c51 := Bool.eq_false_iff.mpr c51
          subst c51
          have H1 : (mahoutlaw06_PathsWithin.j0 k a0 false) = some r := by rw [if_neg (show ¬ (false = true) by decide)] at H; exact H
          clear H
          have H := H1
          clear H1
          have H' := Aside0.mk H
          clear H
          go_wp2_with (first | ((with_reducible refine gate_callee (f := 9) rfl ?_); refine goesL_ (some 11) rfl rfl Tryd.func9 (by kernel_rfl) rfl #[.string a0, .string a1] rfl (by (try simp only [List.map_toArray, List.map_cons, List.map_nil]); first | done | rfl | (simp only [List.length_drop, List.length_take]; rfl)) ?_; (with_reducible refine (paths_Within.calls a0 a1 false _ A8.out).mono ?_); rintro e w60 ⟨rfl, hb⟩; refine ⟨_, rfl, ?_⟩; have n0_ := Aside0.mk (below_step (by repeat (first | (with_reducible first | exact HB.out | apply below_alloc | apply pw_below_drewN | apply below_drew1) | exact HB.out)) hb); clear HB; have HB := n0_; clear n0_; (try clear hb); (try clear hb2); (try clear hk); (try clear hi)) | (go_at_call 9; (with_reducible refine (paths_Within.calls a0 a1 false _ A50.out).mono ?_); rintro e w61 ⟨rfl, hb⟩; have n0_ := Aside0.mk (below_step (by repeat (first | (with_reducible first | exact HB.out | apply below_alloc | apply pw_below_drewN | apply below_drew1) | exact HB.out)) hb); clear HB; have HB := n0_; clear n0_; (try clear hb); (try clear hb2); (try clear hk); (try clear hi)))
          go_meet
          case rel => exact ⟨_, (false), (by first | rfl | (simp; done) | (simp [*]; done)), H', ⟨by first | omega | exact Nat.le_refl _⟩, ⟨by repeat (first | (with_reducible first | exact HB.out | apply below_alloc | apply pw_below_drewN | apply below_drew1) | exact HB.out)⟩⟩
    case rest =>
      clear HC6
      try clear c1
      try clear p2
      try clear c3
      try clear c5
      try clear c8
      try clear c9
      try clear c11
      try clear c13
      try clear c15
      try clear c17
      try clear c36
      try clear c38
      try clear c51
      try clear c53
      obtain ⟨kq, x37_5, rfl, HA, HJ5, HB⟩ := hcut
      cases kq with
      | zero => exact absurd HA.out (by simp [mahoutlaw06_PathsWithin.j0])
      | succ kj5 =>
        have H := HA.out
        clear HA
        simp only [mahoutlaw06_PathsWithin.j0] at H
        by_cases c62 : x37_5 = true
        · subst c62
          have H1 : (some false) = some r := by rw [if_pos rfl] at H; exact H
          clear H
          have H := H1
          clear H1
          obtain rfl := Option.some.inj H
          go_wp2
          go_ret
          exact ⟨by first | rfl | (simp [errW_none, errW_some] <;> rfl) | (simp [*, errW_none, errW_some] <;> rfl), by repeat (first | (with_reducible first | exact HB.out | apply below_alloc | apply pw_below_drewN | apply below_drew1) | exact HB.out)⟩
        · replace c62 := Bool.eq_false_iff.mpr c62
          subst c62
          have H1 : ((paths_Within.f a0 a0).bind fun t125 => ((paths_Check.f a0).bind fun t126 => (if (t125 == (t126 == 0)) = true then ((paths_Check.f a0).bind fun t127 => (if t127 = 0 then ((paths_Within.f a0 (⟨#[47]⟩ : ByteArray)).bind fun t128 => (some t128)) else (some true))) else (some false)))) = some r := by rw [if_neg (show ¬ (false = true) by decide)] at H; exact H
          clear H
          have H := H1
          clear H1
          replace H := Option.bind_eq_some_iff.mp H
          obtain ⟨t125, A630, H⟩ := H
          replace H : ((paths_Check.f a0).bind fun t126 => (if (t125 == (t126 == 0)) = true then ((paths_Check.f a0).bind fun t127 => (if t127 = 0 then ((paths_Within.f a0 (⟨#[47]⟩ : ByteArray)).bind fun t128 => (some t128)) else (some true))) else (some false))) = some r := H
          have A63 := Aside0.mk A630
          clear A630
          replace H := Option.bind_eq_some_iff.mp H
          obtain ⟨t126, A640, H⟩ := H
          replace H : (if (t125 == (t126 == 0)) = true then ((paths_Check.f a0).bind fun t127 => (if t127 = 0 then ((paths_Within.f a0 (⟨#[47]⟩ : ByteArray)).bind fun t128 => (some t128)) else (some true))) else (some false)) = some r := H
          have A64 := Aside0.mk A640
          clear A640
          by_cases c65 : (t125 == (t126 == 0)) = true
          · rw [if_pos c65] at H
            have c65b0 : (t125 == (t126 == 0)) = true := c65
            (try (have c65b1 : decide (t125 = (t126 == 0)) = true := by simpa using c65))
            (try (have c65b2 : (t125 == (t126 == 0)) = true := by simpa using c65))
            clear c65
            replace H := Option.bind_eq_some_iff.mp H
            obtain ⟨t127, A660, H⟩ := H
            replace H : (if t127 = 0 then ((paths_Within.f a0 (⟨#[47]⟩ : ByteArray)).bind fun t128 => (some t128)) else (some true)) = some r := H
            have A66 := Aside0.mk A660
            clear A660
            by_cases c67 : t127 = 0
            · rw [if_pos c67] at H
              have c67b0 : (t127 == 0) = true := beq_iff_eq.mpr c67
              have c67b1 : (t127 != 0) = false := bne_eq_false_iff_eq.mpr c67
              clear c67
              replace H := Option.bind_eq_some_iff.mp H
              obtain ⟨t128, A680, H⟩ := H
              replace H : (some t128) = some r := H
              have A68 := Aside0.mk A680
              clear A680
              obtain rfl := Option.some.inj H
              go_wp2_with (first | ((with_reducible refine gate_callee (f := 9) rfl ?_); refine goesL_ (some 40) rfl rfl Tryd.func9 (by kernel_rfl) rfl #[.string a0, .string a0] rfl (by (try simp only [List.map_toArray, List.map_cons, List.map_nil]); first | done | rfl | (simp only [List.length_drop, List.length_take]; rfl)) ?_; (with_reducible refine (paths_Within.calls a0 a0 t125 _ A63.out).mono ?_); rintro e w69 ⟨rfl, hb⟩; refine ⟨_, rfl, ?_⟩; have n0_ := Aside0.mk (below_step (by repeat (first | (with_reducible first | exact HB.out | apply below_alloc | apply pw_below_drewN | apply below_drew1) | exact HB.out)) hb); clear HB; have HB := n0_; clear n0_; (try clear hb); (try clear hb2); (try clear hk); (try clear hi)) | ((with_reducible refine gate_callee (f := 10) rfl ?_); refine goesL_ (some 42) rfl rfl Tryd.func10 (by kernel_rfl) rfl #[.string a0] rfl (by (try simp only [List.map_toArray, List.map_cons, List.map_nil]); first | done | rfl | (simp only [List.length_drop, List.length_take]; rfl)) ?_; (with_reducible refine (paths_Check.calls a0 t126 _ A64.out).mono ?_); rintro e w70 ⟨rfl, hb⟩; refine ⟨_, rfl, ?_⟩; have n0_ := Aside0.mk (below_step (by repeat (first | (with_reducible first | exact HB.out | apply below_alloc | apply pw_below_drewN | apply below_drew1) | exact HB.out)) hb); clear HB; have HB := n0_; clear n0_; (try clear hb); (try clear hb2); (try clear hk); (try clear hi)) | (go_at_call 10; (with_reducible refine (paths_Check.calls a0 t127 _ A66.out).mono ?_); rintro e w71 ⟨rfl, hb⟩; have n0_ := Aside0.mk (below_step (by repeat (first | (with_reducible first | exact HB.out | apply below_alloc | apply pw_below_drewN | apply below_drew1) | exact HB.out)) hb); clear HB; have HB := n0_; clear n0_; (try clear hb); (try clear hb2); (try clear hk); (try clear hi)) | (go_at_call 9; (with_reducible refine (paths_Within.calls a0 (⟨#[47]⟩ : ByteArray) t128 _ A68.out).mono ?_); rintro e w72 ⟨rfl, hb⟩; have n0_ := Aside0.mk (below_step (by repeat (first | (with_reducible first | exact HB.out | apply below_alloc | apply pw_below_drewN | apply below_drew1) | exact HB.out)) hb); clear HB; have HB := n0_; clear n0_; (try clear hb); (try clear hb2); (try clear hk); (try clear hi)))
              go_ret
              exact ⟨by first | rfl | (simp [errW_none, errW_some] <;> rfl) | (simp [*, errW_none, errW_some] <;> rfl), by repeat (first | (with_reducible first | exact HB.out | apply below_alloc | apply pw_below_drewN | apply below_drew1) | exact HB.out)⟩
            · rw [if_neg c67] at H
              have c67b0 : (t127 == 0) = false := beq_eq_false_iff_ne.mpr c67
              have c67b1 : (t127 != 0) = true := bne_iff_ne.mpr c67
              obtain rfl := Option.some.inj H
              go_wp2_with (first | ((with_reducible refine gate_callee (f := 9) rfl ?_); refine goesL_ (some 40) rfl rfl Tryd.func9 (by kernel_rfl) rfl #[.string a0, .string a0] rfl (by (try simp only [List.map_toArray, List.map_cons, List.map_nil]); first | done | rfl | (simp only [List.length_drop, List.length_take]; rfl)) ?_; (with_reducible refine (paths_Within.calls a0 a0 t125 _ A63.out).mono ?_); rintro e w73 ⟨rfl, hb⟩; refine ⟨_, rfl, ?_⟩; have n0_ := Aside0.mk (below_step (by repeat (first | (with_reducible first | exact HB.out | apply below_alloc | apply pw_below_drewN | apply below_drew1) | exact HB.out)) hb); clear HB; have HB := n0_; clear n0_; (try clear hb); (try clear hb2); (try clear hk); (try clear hi)) | ((with_reducible refine gate_callee (f := 10) rfl ?_); refine goesL_ (some 42) rfl rfl Tryd.func10 (by kernel_rfl) rfl #[.string a0] rfl (by (try simp only [List.map_toArray, List.map_cons, List.map_nil]); first | done | rfl | (simp only [List.length_drop, List.length_take]; rfl)) ?_; (with_reducible refine (paths_Check.calls a0 t126 _ A64.out).mono ?_); rintro e w74 ⟨rfl, hb⟩; refine ⟨_, rfl, ?_⟩; have n0_ := Aside0.mk (below_step (by repeat (first | (with_reducible first | exact HB.out | apply below_alloc | apply pw_below_drewN | apply below_drew1) | exact HB.out)) hb); clear HB; have HB := n0_; clear n0_; (try clear hb); (try clear hb2); (try clear hk); (try clear hi)) | (go_at_call 10; (with_reducible refine (paths_Check.calls a0 t127 _ A66.out).mono ?_); rintro e w75 ⟨rfl, hb⟩; have n0_ := Aside0.mk (below_step (by repeat (first | (with_reducible first | exact HB.out | apply below_alloc | apply pw_below_drewN | apply below_drew1) | exact HB.out)) hb); clear HB; have HB := n0_; clear n0_; (try clear hb); (try clear hb2); (try clear hk); (try clear hi)))
              go_ret
              exact ⟨by first | rfl | (simp [errW_none, errW_some] <;> rfl) | (simp [*, errW_none, errW_some] <;> rfl), by repeat (first | (with_reducible first | exact HB.out | apply below_alloc | apply pw_below_drewN | apply below_drew1) | exact HB.out)⟩
          · rw [if_neg c65] at H
            have c65b0 : (t125 == (t126 == 0)) = false := by simpa using c65
            (try (have c65b1 : decide (t125 = (t126 == 0)) = false := by simpa using c65))
            (try (have c65b2 : (t125 == (t126 == 0)) = false := by simpa using c65))
            (try (have c65b3 : ¬ (t125 = (t126 == 0)) := by simpa using c65))
            clear c65
            obtain rfl := Option.some.inj H
            go_wp2_with (first | ((with_reducible refine gate_callee (f := 9) rfl ?_); refine goesL_ (some 40) rfl rfl Tryd.func9 (by kernel_rfl) rfl #[.string a0, .string a0] rfl (by (try simp only [List.map_toArray, List.map_cons, List.map_nil]); first | done | rfl | (simp only [List.length_drop, List.length_take]; rfl)) ?_; (with_reducible refine (paths_Within.calls a0 a0 t125 _ A63.out).mono ?_); rintro e w76 ⟨rfl, hb⟩; refine ⟨_, rfl, ?_⟩; have n0_ := Aside0.mk (below_step (by repeat (first | (with_reducible first | exact HB.out | apply below_alloc | apply pw_below_drewN | apply below_drew1) | exact HB.out)) hb); clear HB; have HB := n0_; clear n0_; (try clear hb); (try clear hb2); (try clear hk); (try clear hi)) | ((with_reducible refine gate_callee (f := 10) rfl ?_); refine goesL_ (some 42) rfl rfl Tryd.func10 (by kernel_rfl) rfl #[.string a0] rfl (by (try simp only [List.map_toArray, List.map_cons, List.map_nil]); first | done | rfl | (simp only [List.length_drop, List.length_take]; rfl)) ?_; (with_reducible refine (paths_Check.calls a0 t126 _ A64.out).mono ?_); rintro e w77 ⟨rfl, hb⟩; refine ⟨_, rfl, ?_⟩; have n0_ := Aside0.mk (below_step (by repeat (first | (with_reducible first | exact HB.out | apply below_alloc | apply pw_below_drewN | apply below_drew1) | exact HB.out)) hb); clear HB; have HB := n0_; clear n0_; (try clear hb); (try clear hb2); (try clear hk); (try clear hi)))
            go_ret
            exact ⟨by first | rfl | (simp [errW_none, errW_some] <;> rfl) | (simp [*, errW_none, errW_some] <;> rfl), by repeat (first | (with_reducible first | exact HB.out | apply below_alloc | apply pw_below_drewN | apply below_drew1) | exact HB.out)⟩
  · replace c5 := Bool.eq_false_iff.mpr c5
    subst c5
    have H1 : (some false) = some r := by rw [if_neg (show ¬ (false = true) by decide)] at H; exact H
    clear H
    have H := H1
    clear H1
    obtain rfl := Option.some.inj H
    go_enter Tryd.func3, Tryd.ntmps3
    go_wp2_with (first | ((with_reducible refine gate_callee (f := 8) rfl ?_); refine goesL_ (some 7) rfl rfl Tryd.func8 (by kernel_rfl) rfl #[] rfl (by (try simp only [List.map_toArray, List.map_cons, List.map_nil]); first | done | rfl | (simp only [List.length_drop, List.length_take]; rfl)) ?_; (with_reducible refine (mahoutlaw06_speaks.calls  false _ A4.out).mono ?_); rintro e w78 ⟨rfl, hb⟩; refine ⟨_, rfl, ?_⟩; have n0_ := Aside0.mk (below_step (by repeat (first | (with_reducible first | exact HB.out | apply below_alloc | apply pw_below_drewN | apply below_drew1) | exact HB.out)) hb); clear HB; have HB := n0_; clear n0_; (try clear hb); (try clear hb2); (try clear hk); (try clear hi)))
    go_ret
    exact ⟨by first | rfl | (simp [errW_none, errW_some] <;> rfl) | (simp [*, errW_none, errW_some] <;> rfl), by repeat (first | (with_reducible first | exact HB.out | apply below_alloc | apply pw_below_drewN | apply below_drew1) | exact HB.out)⟩

end Go.Proofs.YthllnfdbhfkflaaDoor.P
