-- PRINTED by print.py (a twelfth state) out of the translation. Not trusted: Lean checks it.
import Derived.Test.YthllnfdbhfkflaaDoorPx0
import Derived.Test.YthllnfdbhfkflaaDoorPx1
import Derived.Test.YthllnfdbhfkflaaDoorPx2
import Derived.Test.YthllnfdbhfkflaaDoorPx5
import Derived.Test.YthllnfdbhfkflaaDoorPx6
import Derived.Test.YthllnfdbhfkflaaDoorGiven
namespace Go.Proofs.YthllnfdbhfkflaaDoor.P
open Go.RowKit Go.Proofs.YthllnfdbhfkflaaDoorW.PrintWords Go.Proofs.YthllnfdbhfkflaaDoorW.PrintLast Go.Proofs.YthllnfdbhfkflaaDoorW.PrintMore
attribute [local go_sem] max2_int min2_int max_two min_two max_three min_three max_four min_four   -- for this text's walks alone
set_option linter.unusedVariables false
set_option linter.unusedSimpArgs false

/-! ### paths_Join: function 20 -/
def paths_Join.l0 : Nat → List ByteArray → Int → List ByteArray → Int → Int → Option (ByteArray × Int)
  | 0, _, _, _, _, _ => none
  | k + 1, x0, x4, x7, x8, x9 => if x9 < x8 then (if 0 ≤ x9 then (if x9 < (x7.length : Int) then ((paths_part.f k (rdOf ByteArray.empty x7 x9)).bind fun t235 => (if t235 = true then (paths_Join.l0 k x0 (wrap64 (x4 + (wrap64 (1 + ((rdOf ByteArray.empty x7 x9).size : Int))))) x7 x8 (wrap64 (x9 + 1))) else (some ((⟨#[]⟩ : ByteArray), 60)))) else (none)) else (none)) else (if (x0.length : Int) > 16 then (some ((⟨#[]⟩ : ByteArray), 60)) else (if x4 > 256 then (some ((⟨#[]⟩ : ByteArray), 60)) else ((strings_Join.f x0 (⟨#[47]⟩ : ByteArray)).bind fun t236 => (if 1 + t236.size ≤ 9223372036854775807 then (some ((⟨#[47]⟩ : ByteArray) ++ t236, 0)) else (none)))))
def paths_Join.f (k : Nat) (l0 : List ByteArray) : Option (ByteArray × Int) := paths_Join.l0 k l0 0 l0 (l0.length : Int) 0
theorem paths_Join.mono_l : ∀ k, (∀ y0 y1 y2 y3 y4, LeO (paths_Join.l0 k y0 y1 y2 y3 y4) (paths_Join.l0 (k + 1) y0 y1 y2 y3 y4))
  | 0 => fun _ _ _ _ _ r h => by simp [paths_Join.l0] at h
  | k + 1 => by
    have ih0 := paths_Join.mono_l k
    · intro y0 y1 y2 y3 y4
      unfold paths_Join.l0
      repeat' first
      | (with_reducible exact ih0 _ _ _ _ _)
      | (with_reducible exact paths_part.mono _ _)
      | (with_reducible exact LeO.refl _)
      | (with_reducible exact LeO.none _)
      | (with_reducible refine LeO.ite ?_ ?_)
      | (with_reducible refine LeO.bind ?_ (fun _ => ?_))
      | exact ih0 _ _ _ _ _
      | exact paths_part.mono _ _
      | exact LeO.none _
      | refine LeO.ite ?_ ?_
      | refine LeO.bind ?_ (fun _ => ?_)
theorem paths_Join.mono : ∀ a0 k, LeO (paths_Join.f k a0) (paths_Join.f (k + 1) a0) := by
  intro a0 k
  have ih0 := paths_Join.mono_l k
  unfold paths_Join.f
  repeat' first
      | (with_reducible exact ih0 _ _ _ _ _)
      | (with_reducible exact paths_part.mono _ _)
      | (with_reducible exact LeO.refl _)
      | (with_reducible exact LeO.none _)
      | (with_reducible refine LeO.ite ?_ ?_)
      | (with_reducible refine LeO.bind ?_ (fun _ => ?_))
      | exact ih0 _ _ _ _ _
      | exact paths_part.mono _ _
      | exact LeO.none _
      | refine LeO.ite ?_ ?_
      | refine LeO.bind ?_ (fun _ => ?_)
set_option maxHeartbeats 8000000 in
set_option maxRecDepth 100000 in
theorem paths_Join.calls (k : Nat) (A0 : Option Addr) (c0 : Nat) (l0 : List ByteArray) (r1 : ByteArray) (r2 : Int) (w : World) (hr0 : Kd.C Kd.string w A0 l0.length l0) (hc0 : l0.length ≤ c0) (h : paths_Join.f k l0 = some (r1, r2)) :
    Calls Tryd.prog 20 #[.slice A0 l0.length c0] w fun e w' => e = .returned (.tuple #[.string r1, .int .i64 r2]) ∧ Below w.heap.size w w' := by
  have HR0 := Aside0.mk hr0
  have HC0 := Aside0.mk hc0
  clear hr0 hc0
  have HB := Aside0.mk (Below.refl w.heap.size w)
  have H : (paths_Join.l0 k l0 0 l0 (l0.length : Int) 0) = some (r1, r2) := h
  clear h
  have H' := Aside0.mk H
  clear H
  go_enter Tryd.func20, Tryd.ntmps20
  go_wp2
  go_loopg [4, 9] k (fun kq v4 v9 w' => ∃ (x4_1 : Int) (x9_1 : Int), v4 = .int .i64 x4_1 ∧ v9 = .int .i64 x9_1 ∧ Aside0 (paths_Join.l0 kq l0 x4_1 l0 (l0.length : Int) x9_1 = some (r1, r2)) ∧ Aside0 (kq ≤ k) ∧ Aside0 (Below w.heap.size w w'))
  case atStart => exact ⟨(0), (0), (by first | rfl | (simp; done) | (simp [*]; done)), (by first | rfl | (simp; done) | (simp [*]; done)), H', ⟨Nat.le_refl _⟩, ⟨by repeat (first | (with_reducible first | exact HB.out | apply below_alloc | apply pw_below_drewN | apply below_drew1) | exact HB.out)⟩⟩
  case round =>
    clear H'
    obtain ⟨x4_1, x9_1, rfl, rfl, HA, HK1, HB⟩ := hrel
    cases gk with
    | zero => exact absurd HA.out (by simp [paths_Join.l0])
    | succ k1 =>
      have H := HA.out
      clear HA
      simp only [paths_Join.l0] at H
      by_cases c2 : x9_1 < (l0.length : Int)
      · rw [if_pos c2] at H
        have c2b0 : decide (x9_1 < (l0.length : Int)) = true := decide_eq_true c2
        clear c2
        by_cases c3 : 0 ≤ x9_1
        · rw [if_pos c3] at H
          have c3b0 : decide (0 ≤ x9_1) = true := decide_eq_true c3
          clear c3
          by_cases c4 : x9_1 < (l0.length : Int)
          · rw [if_pos c4] at H
            have c4b0 : decide (x9_1 < (l0.length : Int)) = true := decide_eq_true c4
            clear c4
            replace H := Option.bind_eq_some_iff.mp H
            obtain ⟨t235, A50, H⟩ := H
            replace H : (if t235 = true then (paths_Join.l0 k1 l0 (wrap64 (x4_1 + (wrap64 (1 + ((rdOf ByteArray.empty l0 x9_1).size : Int))))) l0 (l0.length : Int) (wrap64 (x9_1 + 1))) else (some ((⟨#[]⟩ : ByteArray), 60))) = some (r1, r2) := H
            have A5 := Aside0.mk A50
            clear A50
            by_cases c6 : t235 = true
            · subst c6
              have H1 : (paths_Join.l0 k1 l0 (wrap64 (x4_1 + (wrap64 (1 + ((rdOf ByteArray.empty l0 x9_1).size : Int))))) l0 (l0.length : Int) (wrap64 (x9_1 + 1))) = some (r1, r2) := by rw [if_pos rfl] at H; exact H
              clear H
              have H := H1
              clear H1
              have H' := Aside0.mk H
              clear H
              have p234 : 0 ≤ (x9_1 : Int) := of_decide_eq_true (by first | (with_reducible assumption) | assumption)
              have q234 : x9_1 < (l0.length : Int) := of_decide_eq_true (by first | (with_reducible assumption) | assumption)
              obtain ⟨ad234, e234, hx234_0⟩ := Kd.at_string HR0.out x9_1 p234 q234
              cases e234
              replace hx234_0 := (HB.out.cell (World.block_lt_of_cell? w _ hx234_0)).trans hx234_0
              replace p234 := eq_true p234
              replace q234 := eq_true q234
              go_wp2_with (first | ((with_reducible refine gate_callee (f := 27) rfl ?_); refine goesL_ (some 14) rfl rfl Tryd.func27 (by kernel_rfl) rfl #[.string (rdOf ByteArray.empty l0 x9_1)] rfl (by (try simp only [List.map_toArray, List.map_cons, List.map_nil]); first | done | rfl | (simp only [List.length_drop, List.length_take]; rfl)) ?_; (with_reducible refine (paths_part.calls k1 (rdOf ByteArray.empty l0 x9_1) true _ A5.out).mono ?_); rintro e w' ⟨rfl, ⟨nd, rfl⟩⟩; refine ⟨_, rfl, ?_⟩))
              go_roundg k1
              case measure => have := HK1.out; omega
              case rel => exact ⟨(wrap64 (x4_1 + (wrap64 (1 + ((rdOf ByteArray.empty l0 x9_1).size : Int))))), (wrap64 (x9_1 + 1)), (by first | rfl | (simp; done) | (simp [*]; done)), (by first | rfl | (simp; done) | (simp [*]; done)), H', ⟨by have := HK1.out; omega⟩, ⟨by repeat (first | (with_reducible first | exact HB.out | apply below_alloc | apply pw_below_drewN | apply below_drew1) | exact HB.out)⟩⟩
            · replace c6 := Bool.eq_false_iff.mpr c6
              subst c6
              have H1 : (some ((⟨#[]⟩ : ByteArray), 60)) = some (r1, r2) := by rw [if_neg (show ¬ (false = true) by decide)] at H; exact H
              clear H
              have H := H1
              clear H1
              simp only [Option.some.injEq, Prod.mk.injEq] at H
              obtain ⟨rfl, rfl⟩ := H
              have p234 : 0 ≤ (x9_1 : Int) := of_decide_eq_true (by first | (with_reducible assumption) | assumption)
              have q234 : x9_1 < (l0.length : Int) := of_decide_eq_true (by first | (with_reducible assumption) | assumption)
              obtain ⟨ad234, e234, hx234_0⟩ := Kd.at_string HR0.out x9_1 p234 q234
              cases e234
              replace hx234_0 := (HB.out.cell (World.block_lt_of_cell? w _ hx234_0)).trans hx234_0
              replace p234 := eq_true p234
              replace q234 := eq_true q234
              go_wp2_with (first | ((with_reducible refine gate_callee (f := 27) rfl ?_); refine goesL_ (some 14) rfl rfl Tryd.func27 (by kernel_rfl) rfl #[.string (rdOf ByteArray.empty l0 x9_1)] rfl (by (try simp only [List.map_toArray, List.map_cons, List.map_nil]); first | done | rfl | (simp only [List.length_drop, List.length_take]; rfl)) ?_; (with_reducible refine (paths_part.calls k1 (rdOf ByteArray.empty l0 x9_1) false _ A5.out).mono ?_); rintro e w' ⟨rfl, ⟨nd, rfl⟩⟩; refine ⟨_, rfl, ?_⟩))
              go_ret2
              exact ⟨by first | rfl | (simp [errW_none, errW_some] <;> rfl) | (simp [*, errW_none, errW_some] <;> rfl), by repeat (first | (with_reducible first | exact HB.out | apply below_alloc | apply pw_below_drewN | apply below_drew1) | exact HB.out)⟩
          · rw [if_neg c4] at H
            exact absurd H (by simp)
        · rw [if_neg c3] at H
          exact absurd H (by simp)
      · rw [if_neg c2] at H
        have c2b0 : decide (x9_1 < (l0.length : Int)) = false := decide_eq_false c2
        clear c2
        by_cases c7 : (l0.length : Int) > 16
        · rw [if_pos c7] at H
          have c7b0 : decide (16 < (l0.length : Int)) = true := decide_eq_true c7
          have c7b1 : decide (16 < l0.length) = true := decide_eq_true (by omega)
          clear c7
          simp only [Option.some.injEq, Prod.mk.injEq] at H
          obtain ⟨rfl, rfl⟩ := H
          go_wp2
          go_ret2
          exact ⟨by first | rfl | (simp [errW_none, errW_some] <;> rfl) | (simp [*, errW_none, errW_some] <;> rfl), by repeat (first | (with_reducible first | exact HB.out | apply below_alloc | apply pw_below_drewN | apply below_drew1) | exact HB.out)⟩
        · rw [if_neg c7] at H
          have c7b0 : decide (16 < (l0.length : Int)) = false := decide_eq_false c7
          have c7b1 : decide (16 < l0.length) = false := decide_eq_false (by omega)
          clear c7
          by_cases c8 : x4_1 > 256
          · rw [if_pos c8] at H
            have c8b0 : decide (256 < x4_1) = true := decide_eq_true c8
            clear c8
            simp only [Option.some.injEq, Prod.mk.injEq] at H
            obtain ⟨rfl, rfl⟩ := H
            go_wp2
            go_ret2
            exact ⟨by first | rfl | (simp [errW_none, errW_some] <;> rfl) | (simp [*, errW_none, errW_some] <;> rfl), by repeat (first | (with_reducible first | exact HB.out | apply below_alloc | apply pw_below_drewN | apply below_drew1) | exact HB.out)⟩
          · rw [if_neg c8] at H
            have c8b0 : decide (256 < x4_1) = false := decide_eq_false c8
            clear c8
            replace H := Option.bind_eq_some_iff.mp H
            obtain ⟨t236, A90, H⟩ := H
            replace H : (if 1 + t236.size ≤ 9223372036854775807 then (some ((⟨#[47]⟩ : ByteArray) ++ t236, 0)) else (none)) = some (r1, r2) := H
            have A9 := Aside0.mk A90
            clear A90
            by_cases c10 : 1 + t236.size ≤ 9223372036854775807
            · rw [if_pos c10] at H
              have c10b0 := eq_true c10
              have c10b1 : decide (1 + t236.size ≤ 9223372036854775807) = true := decide_eq_true c10
              try have c10b2 : (9223372036854775807 < 1 + t236.size) = False := eq_false (Nat.not_lt.2 c10)
              simp only [Option.some.injEq, Prod.mk.injEq] at H
              obtain ⟨rfl, rfl⟩ := H
              go_wp2_with (first | ((with_reducible refine gate_callee (f := 31) rfl ?_); refine goesL_ (some 30) rfl rfl Tryd.func31 (by kernel_rfl) rfl #[.slice A0 l0.length c0, .string (⟨#[47]⟩ : ByteArray)] rfl (by (try simp only [List.map_toArray, List.map_cons, List.map_nil]); first | done | rfl | (simp only [List.length_drop, List.length_take]; rfl)) ?_; (with_reducible refine (strings_Join.calls _ _ l0 (⟨#[47]⟩ : ByteArray) t236 _ ?side1 ?side2 A9.out).mono ?_); (case side1 => repeat (first | exact (Kd.C_below HR0.out HB.out) | (with_reducible refine Kd.C_alloc ?_ _) | (with_reducible refine Kd.C_drewN ?_ _) | (with_reducible refine Kd.C_drew ?_))); (case side2 => exact HC0.out); rintro e w11 ⟨rfl, hb⟩; refine ⟨_, rfl, ?_⟩; have n0_ := Aside0.mk (below_step (by repeat (first | (with_reducible first | exact HB.out | apply below_alloc | apply pw_below_drewN | apply below_drew1) | exact HB.out)) hb); clear HB; have HB := n0_; clear n0_; (try clear hb); (try clear hb2); (try clear hk); (try clear hi)))
              go_ret2
              exact ⟨by first | rfl | (simp [errW_none, errW_some] <;> rfl) | (simp [*, errW_none, errW_some] <;> rfl), by repeat (first | (with_reducible first | exact HB.out | apply below_alloc | apply pw_below_drewN | apply below_drew1) | exact HB.out)⟩
            · rw [if_neg c10] at H
              exact absurd H (by simp)

/-! ### mahoutlaw06_PathsJoins: function 6 -/
def mahoutlaw06_PathsJoins.j0 : Nat → List ByteArray → ByteArray → Bool → Bool → Option (Bool)
  | 0, _, _, _, _ => none
  | k + 1, x0, x4, x7, x47 => if x47 = true then (some false) else (if x7 = true then ((paths_Split.f x4).bind fun bt250 => (if bt250.2 = 0 then ((mahoutlaw06_texts.f k bt250.1 x0).bind fun t254 => (some t254)) else (some false))) else (some true))
def mahoutlaw06_PathsJoins.f (k : Nat) (l0 : List ByteArray) : Option (Bool) := (mahoutlaw06_speaks.f).bind fun t237 => (if t237 = true then ((some (([] : List ByteArray) : List ByteArray)).bind fun y238 => (if y238.length + l0.length < 8796093022208 then ((some (y238 ++ l0 : List ByteArray)).bind fun y241 => ((paths_Join.f k y241).bind fun bt244 => ((mahoutref06_Join.f k l0).bind fun bt246 => (if bt244.1.toList = bt246.1.toList then (if ((bt244.2 == 0) != bt246.2) = true then (mahoutlaw06_PathsJoins.j0 k l0 bt244.1 bt246.2 true) else (if bt246.2 = true then ((mahoutlaw06_texts.f k y241 l0).bind fun t248 => (mahoutlaw06_PathsJoins.j0 k l0 bt244.1 bt246.2 (!t248))) else (if bt244.2 = 60 then ((mahoutlaw06_texts.f k y241 l0).bind fun t249 => (mahoutlaw06_PathsJoins.j0 k l0 bt244.1 bt246.2 (!t249))) else (mahoutlaw06_PathsJoins.j0 k l0 bt244.1 bt246.2 true)))) else (mahoutlaw06_PathsJoins.j0 k l0 bt244.1 bt246.2 true))))) else (none))) else (some false))
theorem mahoutlaw06_PathsJoins.mono_l : ∀ k, (∀ y0 y1 y2 y3, LeO (mahoutlaw06_PathsJoins.j0 k y0 y1 y2 y3) (mahoutlaw06_PathsJoins.j0 (k + 1) y0 y1 y2 y3))
  | 0 => fun _ _ _ _ r h => by simp [mahoutlaw06_PathsJoins.j0] at h
  | k + 1 => by
    have ih0 := mahoutlaw06_PathsJoins.mono_l k
    · intro y0 y1 y2 y3
      unfold mahoutlaw06_PathsJoins.j0
      repeat' first
      | (with_reducible exact ih0 _ _ _ _)
      | (with_reducible exact mahoutlaw06_texts.mono _ _ _)
      | (with_reducible exact mahoutref06_Join.mono _ _)
      | (with_reducible exact paths_Join.mono _ _)
      | (with_reducible exact LeO.refl _)
      | (with_reducible exact LeO.none _)
      | (with_reducible refine LeO.ite ?_ ?_)
      | (with_reducible refine LeO.bind ?_ (fun _ => ?_))
      | exact ih0 _ _ _ _
      | exact mahoutlaw06_texts.mono _ _ _
      | exact mahoutref06_Join.mono _ _
      | exact paths_Join.mono _ _
      | exact LeO.none _
      | refine LeO.ite ?_ ?_
      | refine LeO.bind ?_ (fun _ => ?_)
theorem mahoutlaw06_PathsJoins.mono : ∀ a0 k, LeO (mahoutlaw06_PathsJoins.f k a0) (mahoutlaw06_PathsJoins.f (k + 1) a0) := by
  intro a0 k
  have ih0 := mahoutlaw06_PathsJoins.mono_l k
  unfold mahoutlaw06_PathsJoins.f
  repeat' first
      | (with_reducible exact ih0 _ _ _ _)
      | (with_reducible exact mahoutlaw06_texts.mono _ _ _)
      | (with_reducible exact mahoutref06_Join.mono _ _)
      | (with_reducible exact paths_Join.mono _ _)
      | (with_reducible exact LeO.refl _)
      | (with_reducible exact LeO.none _)
      | (with_reducible refine LeO.ite ?_ ?_)
      | (with_reducible refine LeO.bind ?_ (fun _ => ?_))
      | exact ih0 _ _ _ _
      | exact mahoutlaw06_texts.mono _ _ _
      | exact mahoutref06_Join.mono _ _
      | exact paths_Join.mono _ _
      | exact LeO.none _
      | refine LeO.ite ?_ ?_
      | refine LeO.bind ?_ (fun _ => ?_)
set_option maxHeartbeats 8000000 in
set_option maxRecDepth 100000 in
theorem mahoutlaw06_PathsJoins.calls (k : Nat) (A0 : Option Addr) (c0 : Nat) (l0 : List ByteArray) (r : Bool) (w : World) (hr0 : Kd.C Kd.string w A0 l0.length l0) (hc0 : l0.length ≤ c0) (h : mahoutlaw06_PathsJoins.f k l0 = some r) :
    Calls Tryd.prog 6 #[.slice A0 l0.length c0] w fun e w' => e = .returned (.bool r) ∧ Below w.heap.size w w' := by
  have HR0 := Aside0.mk hr0
  have HC0 := Aside0.mk hc0
  clear hr0 hc0
  have HB := Aside0.mk (Below.refl w.heap.size w)
  have H : ((mahoutlaw06_speaks.f).bind fun t237 => (if t237 = true then ((some (([] : List ByteArray) : List ByteArray)).bind fun y238 => (if y238.length + l0.length < 8796093022208 then ((some (y238 ++ l0 : List ByteArray)).bind fun y241 => ((paths_Join.f k y241).bind fun bt244 => ((mahoutref06_Join.f k l0).bind fun bt246 => (if bt244.1.toList = bt246.1.toList then (if ((bt244.2 == 0) != bt246.2) = true then (mahoutlaw06_PathsJoins.j0 k l0 bt244.1 bt246.2 true) else (if bt246.2 = true then ((mahoutlaw06_texts.f k y241 l0).bind fun t248 => (mahoutlaw06_PathsJoins.j0 k l0 bt244.1 bt246.2 (!t248))) else (if bt244.2 = 60 then ((mahoutlaw06_texts.f k y241 l0).bind fun t249 => (mahoutlaw06_PathsJoins.j0 k l0 bt244.1 bt246.2 (!t249))) else (mahoutlaw06_PathsJoins.j0 k l0 bt244.1 bt246.2 true)))) else (mahoutlaw06_PathsJoins.j0 k l0 bt244.1 bt246.2 true))))) else (none))) else (some false))) = some r := h
  clear h
  replace H := Option.bind_eq_some_iff.mp H
  obtain ⟨t237, A20, H⟩ := H
  replace H : (if t237 = true then ((some (([] : List ByteArray) : List ByteArray)).bind fun y238 => (if y238.length + l0.length < 8796093022208 then ((some (y238 ++ l0 : List ByteArray)).bind fun y241 => ((paths_Join.f k y241).bind fun bt244 => ((mahoutref06_Join.f k l0).bind fun bt246 => (if bt244.1.toList = bt246.1.toList then (if ((bt244.2 == 0) != bt246.2) = true then (mahoutlaw06_PathsJoins.j0 k l0 bt244.1 bt246.2 true) else (if bt246.2 = true then ((mahoutlaw06_texts.f k y241 l0).bind fun t248 => (mahoutlaw06_PathsJoins.j0 k l0 bt244.1 bt246.2 (!t248))) else (if bt244.2 = 60 then ((mahoutlaw06_texts.f k y241 l0).bind fun t249 => (mahoutlaw06_PathsJoins.j0 k l0 bt244.1 bt246.2 (!t249))) else (mahoutlaw06_PathsJoins.j0 k l0 bt244.1 bt246.2 true)))) else (mahoutlaw06_PathsJoins.j0 k l0 bt244.1 bt246.2 true))))) else (none))) else (some false)) = some r := H
  have A2 := Aside0.mk A20
  clear A20
  by_cases c3 : t237 = true
  · subst c3
    have H1 : ((some (([] : List ByteArray) : List ByteArray)).bind fun y238 => (if y238.length + l0.length < 8796093022208 then ((some (y238 ++ l0 : List ByteArray)).bind fun y241 => ((paths_Join.f k y241).bind fun bt244 => ((mahoutref06_Join.f k l0).bind fun bt246 => (if bt244.1.toList = bt246.1.toList then (if ((bt244.2 == 0) != bt246.2) = true then (mahoutlaw06_PathsJoins.j0 k l0 bt244.1 bt246.2 true) else (if bt246.2 = true then ((mahoutlaw06_texts.f k y241 l0).bind fun t248 => (mahoutlaw06_PathsJoins.j0 k l0 bt244.1 bt246.2 (!t248))) else (if bt244.2 = 60 then ((mahoutlaw06_texts.f k y241 l0).bind fun t249 => (mahoutlaw06_PathsJoins.j0 k l0 bt244.1 bt246.2 (!t249))) else (mahoutlaw06_PathsJoins.j0 k l0 bt244.1 bt246.2 true)))) else (mahoutlaw06_PathsJoins.j0 k l0 bt244.1 bt246.2 true))))) else (none))) = some r := by rw [if_pos rfl] at H; exact H
    clear H
    have H := H1
    clear H1
    obtain ⟨y238, hy238⟩ : ∃ y_ : List ByteArray, y_ = (([] : List ByteArray)) := ⟨_, rfl⟩
    replace H : (if y238.length + l0.length < 8796093022208 then ((some (y238 ++ l0 : List ByteArray)).bind fun y241 => ((paths_Join.f k y241).bind fun bt244 => ((mahoutref06_Join.f k l0).bind fun bt246 => (if bt244.1.toList = bt246.1.toList then (if ((bt244.2 == 0) != bt246.2) = true then (mahoutlaw06_PathsJoins.j0 k l0 bt244.1 bt246.2 true) else (if bt246.2 = true then ((mahoutlaw06_texts.f k y241 l0).bind fun t248 => (mahoutlaw06_PathsJoins.j0 k l0 bt244.1 bt246.2 (!t248))) else (if bt244.2 = 60 then ((mahoutlaw06_texts.f k y241 l0).bind fun t249 => (mahoutlaw06_PathsJoins.j0 k l0 bt244.1 bt246.2 (!t249))) else (mahoutlaw06_PathsJoins.j0 k l0 bt244.1 bt246.2 true)))) else (mahoutlaw06_PathsJoins.j0 k l0 bt244.1 bt246.2 true))))) else (none)) = some r := by first | (rw [hy238]; with_reducible exact H) | (have H2_ := (Option.bind_some _ _).symm.trans H; rw [hy238]; with_reducible exact H2_) | (have H2_ := (Option.bind_some _ _).symm.trans H; with_reducible exact H2_) | with_reducible exact H | (rw [hy238]; exact H) | exact H
    have Ny238 := Aside0.mk hy238
    clear hy238
    by_cases c4 : y238.length + l0.length < 8796093022208
    · rw [if_pos c4] at H
      have LMc4 := Aside0.mk c4
      clear c4
      obtain ⟨y241, hy241⟩ : ∃ y_ : List ByteArray, y_ = (y238 ++ l0) := ⟨_, rfl⟩
      replace H : ((paths_Join.f k y241).bind fun bt244 => ((mahoutref06_Join.f k l0).bind fun bt246 => (if bt244.1.toList = bt246.1.toList then (if ((bt244.2 == 0) != bt246.2) = true then (mahoutlaw06_PathsJoins.j0 k l0 bt244.1 bt246.2 true) else (if bt246.2 = true then ((mahoutlaw06_texts.f k y241 l0).bind fun t248 => (mahoutlaw06_PathsJoins.j0 k l0 bt244.1 bt246.2 (!t248))) else (if bt244.2 = 60 then ((mahoutlaw06_texts.f k y241 l0).bind fun t249 => (mahoutlaw06_PathsJoins.j0 k l0 bt244.1 bt246.2 (!t249))) else (mahoutlaw06_PathsJoins.j0 k l0 bt244.1 bt246.2 true)))) else (mahoutlaw06_PathsJoins.j0 k l0 bt244.1 bt246.2 true)))) = some r := by first | (rw [hy241]; with_reducible exact H) | (have H2_ := (Option.bind_some _ _).symm.trans H; rw [hy241]; with_reducible exact H2_) | (have H2_ := (Option.bind_some _ _).symm.trans H; with_reducible exact H2_) | with_reducible exact H | (rw [hy241]; exact H) | exact H
      have Ny241 := Aside0.mk hy241
      clear hy241
      replace H := Option.bind_eq_some_iff.mp H
      obtain ⟨⟨t244, t245⟩, A50, H⟩ := H
      replace H : ((mahoutref06_Join.f k l0).bind fun bt246 => (if t244.toList = bt246.1.toList then (if ((t245 == 0) != bt246.2) = true then (mahoutlaw06_PathsJoins.j0 k l0 t244 bt246.2 true) else (if bt246.2 = true then ((mahoutlaw06_texts.f k y241 l0).bind fun t248 => (mahoutlaw06_PathsJoins.j0 k l0 t244 bt246.2 (!t248))) else (if t245 = 60 then ((mahoutlaw06_texts.f k y241 l0).bind fun t249 => (mahoutlaw06_PathsJoins.j0 k l0 t244 bt246.2 (!t249))) else (mahoutlaw06_PathsJoins.j0 k l0 t244 bt246.2 true)))) else (mahoutlaw06_PathsJoins.j0 k l0 t244 bt246.2 true))) = some r := H
      have A5 := Aside0.mk A50
      clear A50
      replace H := Option.bind_eq_some_iff.mp H
      obtain ⟨⟨t246, t247⟩, A60, H⟩ := H
      replace H : (if t244.toList = t246.toList then (if ((t245 == 0) != t247) = true then (mahoutlaw06_PathsJoins.j0 k l0 t244 t247 true) else (if t247 = true then ((mahoutlaw06_texts.f k y241 l0).bind fun t248 => (mahoutlaw06_PathsJoins.j0 k l0 t244 t247 (!t248))) else (if t245 = 60 then ((mahoutlaw06_texts.f k y241 l0).bind fun t249 => (mahoutlaw06_PathsJoins.j0 k l0 t244 t247 (!t249))) else (mahoutlaw06_PathsJoins.j0 k l0 t244 t247 true)))) else (mahoutlaw06_PathsJoins.j0 k l0 t244 t247 true)) = some r := H
      have A6 := Aside0.mk A60
      clear A60
      have HC7 := Aside0.mk H
      clear H
      go_enter Tryd.func6, Tryd.ntmps6
      go_upto_region 6 with (first | ((with_reducible refine gate_callee (f := 8) rfl ?_); refine goesL_ (some 10) rfl rfl Tryd.func8 (by kernel_rfl) rfl #[] rfl (by (try simp only [List.map_toArray, List.map_cons, List.map_nil]); first | done | rfl | (simp only [List.length_drop, List.length_take]; rfl)) ?_; (with_reducible refine (mahoutlaw06_speaks.calls  true _ A2.out).mono ?_); rintro e w8 ⟨rfl, hb⟩; refine ⟨_, rfl, ?_⟩; have n0_ := Aside0.mk (below_step (by repeat (first | (with_reducible first | exact HB.out | apply below_alloc | apply pw_below_drewN | apply below_drew1) | exact HB.out)) hb); clear HB; have HB := n0_; clear n0_; (try clear hb); (try clear hb2); (try clear hk); (try clear hi)) | ((with_reducible refine gate_dst (N := 12) rfl ?_); refine Kd.R_lit Kd.string _ 9 ?hg (N := 12) ?hd (xs := ([] : List ByteArray)) (inner := []) (ok := fun _ => True) (okp := fun _ => True) ?hr ?hp (fun _ hk => hk) trivial (Below.refl _ _) (Nat.le_refl _) (by simp) ?_; (case hd => rfl); (case hg => rfl); (case hr => first | (go_simp; done) | (go_simp; rfl)); (case hp => exact (Reps.none _ _)); intro v239 w9 ho10 hb hg_ hnew_; clear hg_ hnew_; (first | rw [← Ny238.out] at ho10 | (simp only [Int.reduceToNat] at ho10; rw [← Ny238.out] at ho10)); have n0_ := Aside0.mk (Kd.R_lower ho10 (below_size (by repeat (first | (with_reducible first | exact HB.out | apply below_alloc | apply pw_below_drewN | apply below_drew1) | exact HB.out)))); have n1_ := Aside0.mk (below_step (by repeat (first | (with_reducible first | exact HB.out | apply below_alloc | apply pw_below_drewN | apply below_drew1) | exact HB.out)) hb); clear HB; have HO240 := n0_; have HB := n1_; clear n0_ n1_; clear hb ho10) | ((with_reducible refine gate_builtin (b := .append) (xs := #[.tmp 12, .tmp 13]) rfl ?_); at_builtin; refine Kd.R_append_rows Kd.string (w0 := w) w.heap.size rfl (.tmp 12) (.tmp 13) 27 9 (.string ⟨#[]⟩) 16 rfl Tryd.underlying27 info9 rfl (by decide) (by omega) v239 y238 l0 _ _ _ (fun _ => True) (fun _ => False) rfl rfl ?aO ?aR (fun _ _ h => h) (fun _ h => h.elim) ?aF ?aB ?aS ?aL ?_; (case aR => repeat (first | exact (Kd.C_below HR0.out HB.out) | (with_reducible refine Kd.C_alloc ?_ _) | (with_reducible refine Kd.C_drewN ?_ _) | (with_reducible refine Kd.C_drew ?_))); (case aB => exact (by repeat (first | (with_reducible first | exact HB.out | apply below_alloc | apply pw_below_drewN | apply below_drew1) | exact HB.out))); (case aF => exact (fun _ _ => trivial)); (case aO => exact (by (with_reducible repeat (first | apply Kd.R_alloc | apply Kd.R_drewN | apply Kd.R_drew)); exact HO240.out)); (case aS => exact (below_size (by repeat (first | (with_reducible first | exact HB.out | apply below_alloc | apply pw_below_drewN | apply below_drew1) | exact HB.out)))); (case aL => have := LMc4.out; omega); intro v242 w11 ho hb hg hat; rw [← Ny241.out] at ho; have n0_ := Aside0.mk (hb); have n1_ := Aside0.mk (ho); clear HB; clear HO240; have HB := n0_; have HO243 := n1_; clear n0_ n1_; clear ho hb hg hat; obtain ⟨Ao12, co12, eo12⟩ := Kd.R_slice HO243.out; subst eo12) | ((with_reducible refine gate_callee (f := 20) rfl ?_); refine goesL_ (some 17) rfl rfl Tryd.func20 (by kernel_rfl) rfl #[.slice Ao12 y241.length co12] rfl (by (try simp only [List.map_toArray, List.map_cons, List.map_nil]); first | done | rfl | (simp only [List.length_drop, List.length_take]; rfl)) ?_; (with_reducible refine (paths_Join.calls k _ _ y241 t244 t245 _ ?side1 ?side2 A5.out).mono ?_); (case side1 => repeat (first | exact (Kd.R_reads' HO243.out).2.2 | (with_reducible refine Kd.C_alloc ?_ _) | (with_reducible refine Kd.C_drewN ?_ _) | (with_reducible refine Kd.C_drew ?_))); (case side2 => exact (Kd.R_reads' HO243.out).2.1); rintro e w13 ⟨rfl, hb⟩; refine ⟨_, rfl, ?_⟩; have n0_ := Aside0.mk (Kd.R_below (by (with_reducible repeat (first | apply Kd.R_alloc | apply Kd.R_drewN | apply Kd.R_drew)); exact HO243.out) hb); have n1_ := Aside0.mk (below_step (by repeat (first | (with_reducible first | exact HB.out | apply below_alloc | apply pw_below_drewN | apply below_drew1) | exact HB.out)) hb); clear HO243; clear HB; have HO243 := n0_; have HB := n1_; clear n0_ n1_; (try clear hb); (try clear hb2); (try clear hk); (try clear hi)) | ((with_reducible refine gate_callee (f := 16) rfl ?_); refine goesL_ (some 22) rfl rfl Tryd.func16 (by kernel_rfl) rfl #[.slice A0 l0.length c0] rfl (by (try simp only [List.map_toArray, List.map_cons, List.map_nil]); first | done | rfl | (simp only [List.length_drop, List.length_take]; rfl)) ?_; (with_reducible refine (mahoutref06_Join.calls k _ _ l0 t246 t247 _ ?side1 ?side2 A6.out).mono ?_); (case side1 => repeat (first | exact (Kd.C_below HR0.out HB.out) | (with_reducible refine Kd.C_alloc ?_ _) | (with_reducible refine Kd.C_drewN ?_ _) | (with_reducible refine Kd.C_drew ?_))); (case side2 => exact HC0.out); rintro e w14 ⟨rfl, hb⟩; refine ⟨_, rfl, ?_⟩; have n0_ := Aside0.mk (Kd.R_below (by (with_reducible repeat (first | apply Kd.R_alloc | apply Kd.R_drewN | apply Kd.R_drew)); exact HO243.out) hb); have n1_ := Aside0.mk (below_step (by repeat (first | (with_reducible first | exact HB.out | apply below_alloc | apply pw_below_drewN | apply below_drew1) | exact HB.out)) hb); clear HO243; clear HB; have HO243 := n0_; have HB := n1_; clear n0_ n1_; (try clear hb); (try clear hb2); (try clear hk); (try clear hi)))
      (try simp only [Act.put, List.setIfInBounds_toArray, List.set_cons_zero, List.set_cons_succ])
      go_cut [47] (fun v47 wc => ∃ (kq : Nat) (x47_6 : Bool), v47 = .bool x47_6 ∧ Aside0 (mahoutlaw06_PathsJoins.j0 kq l0 t244 t247 x47_6 = some r) ∧ Aside0 (kq ≤ k) ∧ Aside0 (Below w.heap.size w wc))
      case first =>
        have H := HC7.out
        clear HC7
        by_cases c15 : t244.toList = t246.toList
        · rw [if_pos c15] at H
          have c15b0 : (t244.toList == t246.toList) = true := beq_iff_eq.mpr c15
          have c15b1 : (t244.toList != t246.toList) = false := bne_eq_false_iff_eq.mpr c15
          clear c15
          (first | rw [c15b0] | (simp only [i64_w, i32_w]; rw [c15b0]) | skip)
          by_cases c16 : ((t245 == 0) != t247) = true
          · rw [if_pos c16] at H
            have c16b0 : ((t245 == 0) != t247) = true := c16
            (try (have c16b1 : decide ((t245 == 0) = t247) = false := by simpa using c16))
            (try (have c16b2 : ((t245 == 0) == t247) = false := by simpa using c16))
            (try (have c16b3 : ¬ ((t245 == 0) = t247) := by simpa using c16))
            clear c16
            have H' := Aside0.mk H
            clear H
            go_wp2
            go_meet
            case rel => exact ⟨_, (true), (by first | rfl | (simp; done) | (simp [*]; done)), H', ⟨by first | omega | exact Nat.le_refl _⟩, ⟨by repeat (first | (with_reducible first | exact HB.out | apply below_alloc | apply pw_below_drewN | apply below_drew1) | exact HB.out)⟩⟩
          · rw [if_neg c16] at H
            have c16b0 : ((t245 == 0) != t247) = false := by simpa using c16
            (try (have c16b1 : decide ((t245 == 0) = t247) = true := by simpa using c16))
            (try (have c16b2 : ((t245 == 0) == t247) = true := by simpa using c16))
            clear c16
            by_cases c17 : t247 = true
            · subst c17
              have H1 : ((mahoutlaw06_texts.f k y241 l0).bind fun t248 => (mahoutlaw06_PathsJoins.j0 k l0 t244 true (!t248))) = some r := by rw [if_pos rfl] at H; exact H
              clear H
              have H := H1
              clear H1
              replace H := Option.bind_eq_some_iff.mp H
              obtain ⟨t248, A180, H⟩ := H
              replace H : (mahoutlaw06_PathsJoins.j0 k l0 t244 true (!t248)) = some r := H
              have A18 := Aside0.mk A180
              clear A180
              have H' := Aside0.mk H
              clear H
              go_wp2_with (first | (go_at_call 13; (with_reducible refine (mahoutlaw06_texts.calls k _ _ y241 _ _ l0 t248 _ ?side1 ?side2 ?side3 ?side4 A18.out).mono ?_); (case side1 => repeat (first | exact (Kd.R_reads' HO243.out).2.2 | (with_reducible refine Kd.C_alloc ?_ _) | (with_reducible refine Kd.C_drewN ?_ _) | (with_reducible refine Kd.C_drew ?_))); (case side2 => exact (Kd.R_reads' HO243.out).2.1); (case side3 => repeat (first | exact (Kd.C_below HR0.out HB.out) | (with_reducible refine Kd.C_alloc ?_ _) | (with_reducible refine Kd.C_drewN ?_ _) | (with_reducible refine Kd.C_drew ?_))); (case side4 => exact HC0.out); rintro e w' ⟨rfl, ⟨nd, rfl⟩⟩))
              go_meet
              case rel => exact ⟨_, (!t248), (by first | rfl | (simp; done) | (simp [*]; done)), H', ⟨by first | omega | exact Nat.le_refl _⟩, ⟨by repeat (first | (with_reducible first | exact HB.out | apply below_alloc | apply pw_below_drewN | apply below_drew1) | exact HB.out)⟩⟩
            · replace c17 := Bool.eq_false_iff.mpr c17
              subst c17
              have H1 : (if t245 = 60 then ((mahoutlaw06_texts.f k y241 l0).bind fun t249 => (mahoutlaw06_PathsJoins.j0 k l0 t244 false (!t249))) else (mahoutlaw06_PathsJoins.j0 k l0 t244 false true)) = some r := by rw [if_neg (show ¬ (false = true) by decide)] at H; exact H
              clear H
              have H := H1
              clear H1
              by_cases c19 : t245 = 60
              · rw [if_pos c19] at H
                have c19b0 : (t245 == 60) = true := beq_iff_eq.mpr c19
                have c19b1 : (t245 != 60) = false := bne_eq_false_iff_eq.mpr c19
                clear c19
                replace H := Option.bind_eq_some_iff.mp H
                obtain ⟨t249, A200, H⟩ := H
                replace H : (mahoutlaw06_PathsJoins.j0 k l0 t244 false (!t249)) = some r := H
                have A20 := Aside0.mk A200
                clear A200
                have H' := Aside0.mk H
                clear H
                go_wp2_with (first | (go_at_call 13; (with_reducible refine (mahoutlaw06_texts.calls k _ _ y241 _ _ l0 t249 _ ?side1 ?side2 ?side3 ?side4 A20.out).mono ?_); (case side1 => repeat (first | exact (Kd.R_reads' HO243.out).2.2 | (with_reducible refine Kd.C_alloc ?_ _) | (with_reducible refine Kd.C_drewN ?_ _) | (with_reducible refine Kd.C_drew ?_))); (case side2 => exact (Kd.R_reads' HO243.out).2.1); (case side3 => repeat (first | exact (Kd.C_below HR0.out HB.out) | (with_reducible refine Kd.C_alloc ?_ _) | (with_reducible refine Kd.C_drewN ?_ _) | (with_reducible refine Kd.C_drew ?_))); (case side4 => exact HC0.out); rintro e w' ⟨rfl, ⟨nd, rfl⟩⟩))
                go_meet
                case rel => exact ⟨_, (!t249), (by first | rfl | (simp; done) | (simp [*]; done)), H', ⟨by first | omega | exact Nat.le_refl _⟩, ⟨by repeat (first | (with_reducible first | exact HB.out | apply below_alloc | apply pw_below_drewN | apply below_drew1) | exact HB.out)⟩⟩
              · rw [if_neg c19] at H
                have c19b0 : (t245 == 60) = false := beq_eq_false_iff_ne.mpr c19
                have c19b1 : (t245 != 60) = true := bne_iff_ne.mpr c19
                have H' := Aside0.mk H
                clear H
                go_wp2
                go_meet
                case rel => exact ⟨_, (true), (by first | rfl | (simp; done) | (simp [*]; done)), H', ⟨by first | omega | exact Nat.le_refl _⟩, ⟨by repeat (first | (with_reducible first | exact HB.out | apply below_alloc | apply pw_below_drewN | apply below_drew1) | exact HB.out)⟩⟩
        · rw [if_neg c15] at H
          have c15b0 : (t244.toList == t246.toList) = false := beq_eq_false_iff_ne.mpr c15
          have c15b1 : (t244.toList != t246.toList) = true := bne_iff_ne.mpr c15
          (first | rw [c15b0] | (simp only [i64_w, i32_w]; rw [c15b0]) | skip)
          have H' := Aside0.mk H
          clear H
          go_wp2
          go_meet
          case rel => exact ⟨_, (true), (by first | rfl | (simp; done) | (simp [*]; done)), H', ⟨by first | omega | exact Nat.le_refl _⟩, ⟨by repeat (first | (with_reducible first | exact HB.out | apply below_alloc | apply pw_below_drewN | apply below_drew1) | exact HB.out)⟩⟩
      case rest =>
        clear HC7
        try clear c1
        try clear c2
        try clear p2
        try clear c3
        try clear c4
        try clear c6
        try clear c8
        try clear c15
        try clear c15b0
        try clear c15b1
        try clear c16
        try clear c16b0
        try clear c16b1
        try clear c16b2
        try clear c17
        try clear c19
        try clear c19b0
        try clear c19b1
        try clear c20
        obtain ⟨kq, x47_6, rfl, HA, HJ6, HB⟩ := hcut
        cases kq with
        | zero => exact absurd HA.out (by simp [mahoutlaw06_PathsJoins.j0])
        | succ kj6 =>
          have H := HA.out
          clear HA
          simp only [mahoutlaw06_PathsJoins.j0] at H
          by_cases c21 : x47_6 = true
          · subst c21
            have H1 : (some false) = some r := by rw [if_pos rfl] at H; exact H
            clear H
            have H := H1
            clear H1
            obtain rfl := Option.some.inj H
            go_wp2
            go_ret
            exact ⟨by first | rfl | (simp [errW_none, errW_some] <;> rfl) | (simp [*, errW_none, errW_some] <;> rfl), by repeat (first | (with_reducible first | exact HB.out | apply below_alloc | apply pw_below_drewN | apply below_drew1) | exact HB.out)⟩
          · replace c21 := Bool.eq_false_iff.mpr c21
            subst c21
            have H1 : (if t247 = true then ((paths_Split.f t244).bind fun bt250 => (if bt250.2 = 0 then ((mahoutlaw06_texts.f kj6 bt250.1 l0).bind fun t254 => (some t254)) else (some false))) else (some true)) = some r := by rw [if_neg (show ¬ (false = true) by decide)] at H; exact H
            clear H
            have H := H1
            clear H1
            by_cases c22 : t247 = true
            · subst c22
              have H1 : ((paths_Split.f t244).bind fun bt250 => (if bt250.2 = 0 then ((mahoutlaw06_texts.f kj6 bt250.1 l0).bind fun t254 => (some t254)) else (some false))) = some r := by rw [if_pos rfl] at H; exact H
              clear H
              have H := H1
              clear H1
              replace H := Option.bind_eq_some_iff.mp H
              obtain ⟨⟨t250, t251⟩, A230, H⟩ := H
              replace H : (if t251 = 0 then ((mahoutlaw06_texts.f kj6 t250 l0).bind fun t254 => (some t254)) else (some false)) = some r := H
              have A23 := Aside0.mk A230
              clear A230
              by_cases c24 : t251 = 0
              · rw [if_pos c24] at H
                have c24b0 : (t251 == 0) = true := beq_iff_eq.mpr c24
                have c24b1 : (t251 != 0) = false := bne_eq_false_iff_eq.mpr c24
                clear c24
                replace H := Option.bind_eq_some_iff.mp H
                obtain ⟨t254, A250, H⟩ := H
                replace H : (some t254) = some r := H
                have A25 := Aside0.mk A250
                clear A250
                obtain rfl := Option.some.inj H
                go_wp2_with (first | ((with_reducible refine gate_callee (f := 12) rfl ?_); refine goesL_ (some 52) rfl rfl Tryd.func12 (by kernel_rfl) rfl #[.string t244] rfl (by (try simp only [List.map_toArray, List.map_cons, List.map_nil]); first | done | rfl | (simp only [List.length_drop, List.length_take]; rfl)) ?_; (with_reducible refine (paths_Split.calls t244 t250 t251 _ A23.out).mono ?_); rintro e w26 ⟨v252, rfl, ho0, hb⟩; refine ⟨_, rfl, ?_⟩; have n0_ := Aside0.mk (Kd.R_lower ho0 (below_size (by repeat (first | (with_reducible first | exact HB.out | apply below_alloc | apply pw_below_drewN | apply below_drew1) | exact HB.out)))); have n1_ := Aside0.mk (below_step (by repeat (first | (with_reducible first | exact HB.out | apply below_alloc | apply pw_below_drewN | apply below_drew1) | exact HB.out)) hb); clear HB; have HO253 := n0_; have HB := n1_; clear n0_ n1_; (try clear hb); (try clear hb2); (try clear hk); (try clear hi); (try clear ho0); obtain ⟨Ao27, co27, eo27⟩ := Kd.R_slice HO253.out; subst eo27) | (go_at_call 13; (with_reducible refine (mahoutlaw06_texts.calls kj6 _ _ t250 _ _ l0 t254 _ ?side1 ?side2 ?side3 ?side4 A25.out).mono ?_); (case side1 => repeat (first | exact (Kd.R_reads' HO253.out).2.2 | (with_reducible refine Kd.C_alloc ?_ _) | (with_reducible refine Kd.C_drewN ?_ _) | (with_reducible refine Kd.C_drew ?_))); (case side2 => exact (Kd.R_reads' HO253.out).2.1); (case side3 => repeat (first | exact (Kd.C_below HR0.out HB.out) | (with_reducible refine Kd.C_alloc ?_ _) | (with_reducible refine Kd.C_drewN ?_ _) | (with_reducible refine Kd.C_drew ?_))); (case side4 => exact HC0.out); rintro e w' ⟨rfl, ⟨nd, rfl⟩⟩))
                go_ret
                exact ⟨by first | rfl | (simp [errW_none, errW_some] <;> rfl) | (simp [*, errW_none, errW_some] <;> rfl), by repeat (first | (with_reducible first | exact HB.out | apply below_alloc | apply pw_below_drewN | apply below_drew1) | exact HB.out)⟩
              · rw [if_neg c24] at H
                have c24b0 : (t251 == 0) = false := beq_eq_false_iff_ne.mpr c24
                have c24b1 : (t251 != 0) = true := bne_iff_ne.mpr c24
                obtain rfl := Option.some.inj H
                go_wp2_with (first | ((with_reducible refine gate_callee (f := 12) rfl ?_); refine goesL_ (some 52) rfl rfl Tryd.func12 (by kernel_rfl) rfl #[.string t244] rfl (by (try simp only [List.map_toArray, List.map_cons, List.map_nil]); first | done | rfl | (simp only [List.length_drop, List.length_take]; rfl)) ?_; (with_reducible refine (paths_Split.calls t244 t250 t251 _ A23.out).mono ?_); rintro e w28 ⟨v252, rfl, ho0, hb⟩; refine ⟨_, rfl, ?_⟩; have n0_ := Aside0.mk (Kd.R_lower ho0 (below_size (by repeat (first | (with_reducible first | exact HB.out | apply below_alloc | apply pw_below_drewN | apply below_drew1) | exact HB.out)))); have n1_ := Aside0.mk (below_step (by repeat (first | (with_reducible first | exact HB.out | apply below_alloc | apply pw_below_drewN | apply below_drew1) | exact HB.out)) hb); clear HB; have HO253 := n0_; have HB := n1_; clear n0_ n1_; (try clear hb); (try clear hb2); (try clear hk); (try clear hi); (try clear ho0)))
                go_ret
                exact ⟨by first | rfl | (simp [errW_none, errW_some] <;> rfl) | (simp [*, errW_none, errW_some] <;> rfl), by repeat (first | (with_reducible first | exact HB.out | apply below_alloc | apply pw_below_drewN | apply below_drew1) | exact HB.out)⟩
            · replace c22 := Bool.eq_false_iff.mpr c22
              subst c22
              have H1 : (some true) = some r := by rw [if_neg (show ¬ (false = true) by decide)] at H; exact H
              clear H
              have H := H1
              clear H1
              obtain rfl := Option.some.inj H
              go_wp2
              go_ret
              exact ⟨by first | rfl | (simp [errW_none, errW_some] <;> rfl) | (simp [*, errW_none, errW_some] <;> rfl), by repeat (first | (with_reducible first | exact HB.out | apply below_alloc | apply pw_below_drewN | apply below_drew1) | exact HB.out)⟩
    · rw [if_neg c4] at H
      exact absurd H (by simp)
  · replace c3 := Bool.eq_false_iff.mpr c3
    subst c3
    have H1 : (some false) = some r := by rw [if_neg (show ¬ (false = true) by decide)] at H; exact H
    clear H
    have H := H1
    clear H1
    obtain rfl := Option.some.inj H
    go_enter Tryd.func6, Tryd.ntmps6
    go_wp2_with (first | ((with_reducible refine gate_callee (f := 8) rfl ?_); refine goesL_ (some 10) rfl rfl Tryd.func8 (by kernel_rfl) rfl #[] rfl (by (try simp only [List.map_toArray, List.map_cons, List.map_nil]); first | done | rfl | (simp only [List.length_drop, List.length_take]; rfl)) ?_; (with_reducible refine (mahoutlaw06_speaks.calls  false _ A2.out).mono ?_); rintro e w29 ⟨rfl, hb⟩; refine ⟨_, rfl, ?_⟩; have n0_ := Aside0.mk (below_step (by repeat (first | (with_reducible first | exact HB.out | apply below_alloc | apply pw_below_drewN | apply below_drew1) | exact HB.out)) hb); clear HB; have HB := n0_; clear n0_; (try clear hb); (try clear hb2); (try clear hk); (try clear hi)))
    go_ret
    exact ⟨by first | rfl | (simp [errW_none, errW_some] <;> rfl) | (simp [*, errW_none, errW_some] <;> rfl), by repeat (first | (with_reducible first | exact HB.out | apply below_alloc | apply pw_below_drewN | apply below_drew1) | exact HB.out)⟩

end Go.Proofs.YthllnfdbhfkflaaDoor.P
