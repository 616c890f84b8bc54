/-
  ABSTRACT HEAPS: an evaluator of the program's code over a heap of one's own, and that what it says is so.
-/
import Derived.Test.YtconhcamgebcaaaGreatDoorAbA
import Derived.RangeFuncRecord
import Derived.RangeFuncCalls
import Derived.WalkKit
import Derived.ProofKit
import Derived.OpenShut
import Derived.Below
import Derived.WideShapes
/- AbSound -/
namespace Go.Ab
set_option linter.unusedVariables false
set_option linter.unusedSimpArgs false

/-- what an operation comes to in the world -/
def OutOk (P : Program) (E : Ren) (w : World) (r : Result Next) : Out → Prop
  | .val v h => ∃ E' v' w', r = .ok (.value v') w' ∧ RW P E' h w' ∧ Ext E w E' w' ∧ RV E' v v'
  | .unit h => ∃ E' w', r = .ok .skip w' ∧ RW P E' h w' ∧ Ext E w E' w'
  | .enter f args h => ∃ E' args' w', r = .ok (.enter f args') w' ∧ RW P E' h w' ∧ Ext E w E' w' ∧ RA E' args args'

theorem val_run {P : Program} {s : Sem Value} {w w' : World} {v : Value} (h : s.run P w = .ok v w') :
    (do pure (.value (← s)) : Sem Next).run P w = .ok (.value v) w' := by simp [h]

theorem unit_run {P : Program} {s : Sem Unit} {w w' : World} (h : s.run P w = .ok () w') :
    (do s; pure .skip : Sem Next).run P w = .ok .skip w' := by simp [h]

section
variable {P : Program} {E : Ren} {h : AH} {w : World}

theorem outVal (r : RW P E h w) {m : Sem Next} {v : Value} (hh : ∃ v', m.run P w = .ok (.value v') w ∧ RV E v v') : OutOk P E w (m.run P w) (.val v h) := by
  obtain ⟨v', h1, h2⟩ := hh
  exact ⟨E, v', w, h1, r, .refl E w, h2⟩

theorem outVal' (r : RW P E h w) {s : Sem Value} {v : Value} (hh : ∃ v', s.run P w = .ok v' w ∧ RV E v v') :
    OutOk P E w ((do pure (.value (← s)) : Sem Next).run P w) (.val v h) := by
  obtain ⟨v', h1, h2⟩ := hh
  exact ⟨E, v', w, val_run h1, r, .refl E w, h2⟩

theorem outNew {s : Sem Value} {v : Value} {h' : AH} (hh : ∃ E' v' w', s.run P w = .ok v' w' ∧ RW P E' h' w' ∧ Ext E w E' w' ∧ RV E' v v') :
    OutOk P E w ((do pure (.value (← s)) : Sem Next).run P w) (.val v h') := by
  obtain ⟨E', v', w', h1, h2, h3, h4⟩ := hh
  exact ⟨E', v', w', val_run h1, h2, h3, h4⟩

theorem valH_eq {v : Option Value} {o : Out} (hh : valH h v = some o) : ∃ u, v = some u ∧ o = .val u h := by
  unfold valH at hh
  split at hh
  · cases hh; exact ⟨_, rfl, rfl⟩
  · cases hh

theorem valP_eq {v : Option (Value × AH)} {o : Out} (hh : valP v = some o) : ∃ u h', v = some (u, h') ∧ o = .val u h' := by
  unfold valP at hh
  split at hh
  · cases hh; exact ⟨_, _, rfl, rfl⟩
  · cases hh

theorem flatV_run {m : Sem Value} {v : Value} (hh : flatV P m = some v) (w : World) : m.run P w = .ok v w ∧ ∀ E : Ren, RV E v v := by
  unfold flatV at hh
  split at hh
  · rename_i u hu
    split at hh
    · rename_i hp
      cases hh
      exact ⟨flat_run w hu, fun E => RV.of_plain hp⟩
    · cases hh
  · cases hh

/-- operands, and what they are in the world -/
def OpsOk (E : Ren) (ρ : Operand → Option Value) (ρ' : Operand → Value) : Prop := ∀ x v, ρ x = some v → RV E v (ρ' x)

theorem listOf_ok {ρ : Operand → Option Value} {ρ' : Operand → Value} (hr : OpsOk E ρ ρ') : ∀ {l : List Operand} {vs : List Value}, listOf ρ l = some vs → RA E vs.toArray (l.map ρ').toArray := by
  intro l
  induction l with
  | nil => intro vs h; cases h; exact .empty
  | cons x l ih =>
    intro vs h
    unfold listOf at h
    split at h
    · rename_i v us hx hl
      cases h
      have h1 := (RA.one (hr x v hx)).append (ih hl)
      simpa using h1
    · cases h

theorem partsOf_ok {ρ : Operand → Option Value} {ρ' : Operand → Value} (hr : OpsOk E ρ ρ') : ∀ {l : List (Nat × Operand)} {vs : List (Nat × Value)}, partsOf ρ l = some vs → Parts E vs (l.map fun (i, x) => (i, ρ' x)) := by
  intro l
  induction l with
  | nil => intro vs h; cases h; exact .nil
  | cons x l ih =>
    intro vs h
    obtain ⟨i, x⟩ := x
    unfold partsOf at h
    split at h
    · rename_i v us hx hl
      cases h
      exact .cons (hr x v hx) (ih hl)
    · cases h

theorem plain_eq {ρ : Operand → Option Value} {ρ' : Operand → Value} (hr : OpsOk E ρ ρ') {x : Operand} {v : Value} (hx : ρ x = some v) (hp : plain v = true) : ρ' x = v :=
  RV.eq_of_plain hp (hr x v hx)

theorem optOf_ok {ρ : Operand → Option Value} {ρ' : Operand → Value} (hr : OpsOk E ρ ρ') {x : Option Operand} {l : Option Value} (hx : optOf ρ x = some l) :
    (l = none ∧ x.map ρ' = none) ∨ ∃ v v', l = some v ∧ x.map ρ' = some v' ∧ RV E v v' := by
  unfold optOf at hx
  split at hx
  · cases hx; exact .inl ⟨rfl, rfl⟩
  · rename_i y
    rw [Option.map_eq_some_iff] at hx
    obtain ⟨v, h1, rfl⟩ := hx
    exact .inr ⟨v, _, rfl, rfl, hr y v h1⟩

theorem optPlain {ρ : Operand → Option Value} {ρ' : Operand → Value} (hr : OpsOk E ρ ρ') {x : Option Operand} {l : Option Value} (hx : optOf ρ x = some l) (hp : l.all plain = true) : x.map ρ' = l := by
  rcases optOf_ok hr hx with ⟨rfl, h2⟩ | ⟨v, v', rfl, h2, h3⟩
  · exact h2
  · rw [h2, RV.eq_of_plain (by simpa using hp) h3]

/-- a bound is an int, so it is the same -/
theorem optBound {ρ : Operand → Option Value} {ρ' : Operand → Value} (hr : OpsOk E ρ ρ') {x : Option Operand} {l : Option Value} (hx : optOf ρ x = some l) (hb : ∀ v, l = some v → ∃ k n, v = .int k n) : x.map ρ' = l := by
  rcases optOf_ok hr hx with ⟨rfl, h2⟩ | ⟨v, v', rfl, h2, h3⟩
  · exact h2
  · obtain ⟨k, n, rfl⟩ := hb v rfl
    cases h3
    exact h2

theorem bounds_ints {len cap : Nat} {lo hi : Option Value} {p : Nat × Nat} (hb : bounds? len cap lo hi = some p) : (∀ v, lo = some v → ∃ k n, v = .int k n) ∧ (∀ v, hi = some v → ∃ k n, v = .int k n) := by
  have key : ∀ {v y n}, bound? v y = some n → ∃ k i, v = .int k i := by
    intro v y n h
    unfold bound? at h
    split at h
    · exact ⟨_, _, rfl⟩
    · cases h
  unfold bounds? at hb
  split at hb
  · rename_i g hg
    split at hb
    · rename_i l hl
      constructor
      · rintro v rfl; exact key hl
      · rintro v rfl; exact key hg
    · cases hb
  · cases hb

theorem opSlice_bounds {t : TypeId} {x : Value} {lo hi : Option Value} {v : Value} (hv : opSlice P h t x lo hi = some v) : (∀ v, lo = some v → ∃ k n, v = .int k n) ∧ (∀ v, hi = some v → ∃ k n, v = .int k n) := by
  unfold opSlice at hv
  split at hv
  · split at hv
    · rename_i hb; exact bounds_ints hb
    · cases hv
  · split at hv
    · rename_i hb; exact bounds_ints hb
    · cases hv
  · split at hv
    · rename_i hb _; exact bounds_ints hb
    · cases hv
  · split at hv
    · rename_i hb; exact bounds_ints hb
    · cases hv
  · cases hv

theorem allPlain {l : List Value} {l' : Array Value} (hp : l.all (plainN 12) = true) (hr : RA E l.toArray l') : l' = l.toArray := by
  have := RV.eq_of_plain (n := 13) (v := .tuple l.toArray) (v' := .tuple l') (E := E) (by simpa [plainN] using hp) (.tuple hr.1 hr.2)
  cases this; rfl

theorem one_of {a : Value} {l' : Array Value} (hr : RA E [a].toArray l') : ∃ a', l' = #[a'] ∧ RV E a a' := by
  have hs : l'.size = 1 := hr.1.symm
  obtain ⟨a', h1, h2⟩ := hr.get (i := 0) (v := a) (by simp)
  refine ⟨a', ?_, h2⟩
  apply Array.ext_getElem?
  intro i
  match i with
  | 0 => rw [h1]; rfl
  | n + 1 => rw [Array.getElem?_eq_none (by omega), Array.getElem?_eq_none (by simp)]


theorem find_clone {fn : Func} (h : fn.name = "maps.clone") : Extern.find fn = some Extern.MapsClone.clone := by
  unfold Extern.find
  rw [h]
  rfl
theorem find_noEscape {fn : Func} (h : fn.name = "internal/abi.NoEscape") : Extern.find fn = some Extern.AbiNoEscape.same := by
  unfold Extern.find
  rw [h]
  rfl

theorem extO_ok (r : RW P E h w) {f : FuncId} {fn : Func} (hf : P.funcs[f]? = some fn) (hn : ¬ (fn.name == "runtime.NumGoroutine") = true) (hb : fn.body.isNone = true) (hx : isExt fn = true) {args : List Value} {args' : Array Value} {v : Value} {h' : AH} (hh : extO fn.name args h = some (v, h')) (ha : RA E args.toArray args') :
    OutOk P E w ((callFunc f args').run P w) (.val v h') := by
  have hnx : Extern.findNext fn = none := by
    unfold isExt at hx
    rw [Bool.and_eq_true] at hx
    exact Option.isNone_iff_eq_none.1 hx.2
  unfold extO at hh
  split at hh
  case h_2 => cases hh
  rename_i x
  obtain ⟨x', rfl, hx'⟩ := one_of ha
  have hrun : ∀ (e : Array Value → Sem Value), Extern.find fn = some e → ∀ v w', (e #[x']).run P w = .ok v w' → (callFunc f #[x']).run P w = .ok (.value v) w' := by
    intro e h2 v w' h3
    unfold callFunc
    simp only [Sem.run_bind, run_program, Result.andThen_ok, hf]
    rw [if_neg hn, if_pos hb]
    simp [hnx, h2, h3]
  split at hh
  · rename_i hc
    obtain ⟨E', v', w', h1, h2, h3, h4⟩ := opClone_run r hh hx'
    exact ⟨E', v', w', hrun _ (find_clone (by simpa using hc)) _ _ h1, h2, h3, h4⟩
  · split at hh
    · rename_i hc
      cases hh
      exact ⟨E, x', w, hrun _ (find_noEscape (by simpa using hc)) _ _ rfl, r, .refl E w, hx'⟩
    · cases hh

theorem enterOf_ok (r : RW P E h w) {f : FuncId} {args : List Value} {args' : Array Value} {o : Out} (hh : enterOf P f args h = some o) (ha : RA E args.toArray args') :
    OutOk P E w ((callFunc f args').run P w) o := by
  unfold enterOf at hh
  split at hh
  · rename_i fn hf
    split at hh
    · cases hh
    · rename_i hn
      split at hh
      · rename_i hb
        split at hh
        · rename_i hx
          obtain ⟨u, h', h1, rfl⟩ := valP_eq hh
          exact extO_ok r hf hn hb hx h1 ha
        split at hh
        · rename_i hp
          split at hh
          · rename_i v hv
            split at hh
            · rename_i hpv
              cases hh
              rw [allPlain hp ha]
              exact ⟨E, v, w, flat_run w hv, r, .refl E w, RV.of_plain hpv⟩
            · cases hh
          · cases hh
        · cases hh
      · rename_i hb
        cases hh
        refine ⟨E, args', w, ?_, r, .refl E w, ha⟩
        unfold callFunc
        simp only [Sem.run_bind, run_program, Result.andThen_ok, hf]
        rw [if_neg hn, if_neg hb]
        rfl
  · cases hh

end

end Go.Ab

/- AbSound2 -/
namespace Go.Ab
set_option linter.unusedVariables false
set_option linter.unusedSimpArgs false

section
variable {P : Program} {E : Ren} {h : AH} {w : World} {ρ : Operand → Option Value} {ρ' : Operand → Value}

theorem two_of {a b : Value} {l' : Array Value} (hr : RA E [a, b].toArray l') : ∃ a' b', l' = #[a', b'] ∧ RV E a a' ∧ RV E b b' := by
  have hs : l'.size = 2 := hr.1.symm
  obtain ⟨a', h1, h2⟩ := hr.get (i := 0) (v := a) (by simp)
  obtain ⟨b', h3, h4⟩ := hr.get (i := 1) (v := b) (by simp)
  refine ⟨a', b', ?_, h2, h4⟩
  apply Array.ext_getElem?
  intro i
  match i with
  | 0 => rw [h1]; rfl
  | 1 => rw [h3]; rfl
  | n + 2 => rw [Array.getElem?_eq_none (by omega), Array.getElem?_eq_none (by simp)]

theorem methodOf_run {t : TypeId} {v v' : Value} {name : String} {g : FuncId} {u : Value} (hh : methodOf P t v name = some (g, u)) (hr : RV E v v') (n : Nat) :
    ∃ u', (method (n + 1) t v' name).run P w = .ok (g, u') w ∧ RV E u u' := by
  unfold methodOf at hh
  split at hh
  case h_2 => cases hh
  rename_i i hi
  split at hh
  case h_2 => cases hh
  rename_i m hm
  split at hh
  case isFalse => cases hh
  rename_i hp
  have hp' : m.path.toList = [] := by simpa using hp
  split at hh
  · rename_i f hf
    split at hh
    · rename_i el e
      cases hh
      refine ⟨v', ?_, hr⟩
      simp [method, info_run hi, hm, hp', follow, hf, receiverAt, und_run e, Place.get]
    · cases hh
  · rename_i f hf
    split at hh
    · cases hh
    · cases hh
    · rename_i d hd e
      cases hh
      refine ⟨v', ?_, hr⟩
      simp only [method, info_run hi, hm, hp', follow, hf, receiverAt, und_run e, Place.get, Sem.run_bind, Result.andThen_ok, Sem.run_pure]
      all_goals (cases d <;> first | (exact absurd rfl (hd _)) | rfl)
  · cases hh

theorem absCall_ok (r : RW P E h w) (hr : OpsOk E ρ ρ') {c : Call} {ty : TypeId} {o : Out} (hh : absCall P ρ c ty h = some o) :
    OutOk P E w ((do let d ← resolve ρ' c ty; invoke d.target d.args : Sem Next).run P w) o := by
  unfold absCall at hh
  split at hh
  · cases hh
  rename_i args hargs
  have ha : RA E args.toArray (c.args.map ρ') := by
    have := listOf_ok hr hargs
    rwa [show (c.args.toList.map ρ').toArray = c.args.map ρ' by rw [← Array.toList_map, Array.toArray_toList]] at this
  have hb : ∀ b, c.callee = .builtin b → ∃ cs, (do let d ← resolve ρ' c ty; invoke d.target d.args : Sem Next).run P w = (builtin b c.argTypes ty cs (c.args.map ρ')).run P w := by
    intro b e
    simp only [resolve, e, Sem.run_bind, Sem.run_pure, Result.andThen_ok, invoke]
    exact ⟨_, rfl⟩
  split at hh
  · rename_i e
    obtain ⟨cs, hcs⟩ := hb _ e
    rw [hcs]
    split at hh
    · obtain ⟨u, h', h1, rfl⟩ := valP_eq hh
      obtain ⟨s', x', e2, hs, hx⟩ := two_of ha
      rw [e2]
      exact outNew (opAppend_run r h1 hs hx)
    · cases hh
  · rename_i e
    obtain ⟨cs, hcs⟩ := hb _ e
    rw [hcs]
    split at hh
    · obtain ⟨u, h', h1, rfl⟩ := valP_eq hh
      obtain ⟨s', x', e2, hs, hx⟩ := two_of ha
      rw [e2]
      exact outNew (opCopy_run r h1 hs hx)
    · cases hh
  · rename_i e
    obtain ⟨cs, hcs⟩ := hb _ e
    rw [hcs]
    split at hh
    · rename_i x t h0
      obtain ⟨u, h1, rfl⟩ := valH_eq hh
      obtain ⟨x', e2, hx⟩ := one_of ha
      rw [e2]
      obtain ⟨h2, h3⟩ := opLen_run (ty := ty) r h0 h1 hx
      exact outVal' r ⟨_, h2, h3⟩
    · cases hh
  · rename_i e
    obtain ⟨cs, hcs⟩ := hb _ e
    rw [hcs]
    split at hh
    · rename_i m k t h0
      split at hh
      · rename_i h' hd
        cases hh
        obtain ⟨m', k', e2, hm, hk⟩ := two_of ha
        rw [e2]
        obtain ⟨w', g1, g2, g3⟩ := opDelete_run (ty := ty) r h0 hd hm hk
        exact outNew ⟨E, _, w', g1, g2, g3, .tuple rfl fun i v v' h _ => by simp at h⟩
      · cases hh
    · cases hh
  · rename_i e
    obtain ⟨cs, hcs⟩ := hb _ e
    rw [hcs]
    split at hh
    · rename_i hp
      obtain ⟨u, h1, rfl⟩ := valH_eq hh
      rw [allPlain hp ha]
      obtain ⟨h2, h3⟩ := flatV_run h1 w
      exact outVal' r ⟨_, h2, h3 E⟩
    · cases hh
  · rename_i e
    obtain ⟨cs, hcs⟩ := hb _ e
    rw [hcs]
    split at hh
    · rename_i hp
      obtain ⟨u, h1, rfl⟩ := valH_eq hh
      rw [allPlain hp ha]
      obtain ⟨h2, h3⟩ := flatV_run h1 w
      exact outVal' r ⟨_, h2, h3 E⟩
    · cases hh
  · rename_i e
    obtain ⟨cs, hcs⟩ := hb _ e
    rw [hcs]
    split at hh
    · rename_i hp
      obtain ⟨u, h1, rfl⟩ := valH_eq hh
      rw [allPlain hp ha]
      obtain ⟨h2, h3⟩ := flatV_run h1 w
      exact outVal' r ⟨_, h2, h3 E⟩
    · cases hh
  · rename_i e
    obtain ⟨cs, hcs⟩ := hb _ e
    rw [hcs]
    split at hh
    · rename_i hp
      obtain ⟨u, h1, rfl⟩ := valH_eq hh
      rw [allPlain hp ha]
      obtain ⟨h2, h3⟩ := flatV_run h1 w
      exact outVal' r ⟨_, h2, h3 E⟩
    · cases hh
  · rename_i e
    obtain ⟨cs, hcs⟩ := hb _ e
    rw [hcs]
    split at hh
    · rename_i hp
      obtain ⟨u, h1, rfl⟩ := valH_eq hh
      rw [allPlain hp ha]
      obtain ⟨h2, h3⟩ := flatV_run h1 w
      exact outVal' r ⟨_, h2, h3 E⟩
    · cases hh
  · rename_i e
    obtain ⟨cs, hcs⟩ := hb _ e
    rw [hcs]
    split at hh
    · rename_i x
      obtain ⟨u, h1, rfl⟩ := valH_eq hh
      obtain ⟨x', e2, hx⟩ := one_of ha
      rw [e2]
      exact outVal' r (opSliceData_run _ _ h1 hx)
    · cases hh
  · rename_i e
    obtain ⟨cs, hcs⟩ := hb _ e
    rw [hcs]
    split at hh
    · rename_i x y t t2 hts
      obtain ⟨u, h', h1, rfl⟩ := valP_eq hh
      obtain ⟨x', y', e2, hx, hy⟩ := two_of ha
      rw [e2]
      have : c.argTypes = #[t, t2] := Array.ext' (by rw [hts])
      rw [this]
      exact outNew (opUString_run r h1 hx hy)
    · cases hh
  · rename_i e
    obtain ⟨cs, hcs⟩ := hb _ e
    rw [hcs]
    split at hh
    · rename_i m t h0
      split at hh
      · rename_i h' hd
        cases hh
        obtain ⟨m', e2, hm⟩ := one_of ha
        rw [e2]
        obtain ⟨w', g1, g2, g3⟩ := opClear_run (ty := ty) r h0 hd hm
        exact outNew ⟨E, _, w', g1, g2, g3, .tuple rfl fun i v v' h _ => by simp at h⟩
      · cases hh
    · cases hh
  · cases hh
  · rename_i f e
    split at hh
    · rename_i g first captured hf
      have hv := hr f _ hf
      generalize hρ : ρ' f = fv at hv
      cases hv with
      | func _ hf1 hc1 hf2 hc2 =>
        rename_i f' c'
        have : (do let d ← resolve ρ' c ty; invoke d.target d.args : Sem Next).run P w = (callFunc g (f' ++ c.args.map ρ' ++ c')).run P w := by
          simp only [resolve, e, hρ, Deferred.ofValue, Sem.run_bind, Sem.run_pure, Result.andThen_ok, invoke]
        rw [this]
        refine enterOf_ok r hh ?_
        have e3 : (first.toList ++ args ++ captured.toList).toArray = first ++ args.toArray ++ captured := Array.ext' (by simp)
        rw [e3]
        exact (RA.append (RA.append (⟨hf1, hf2⟩ : RA E first f') ha) (⟨hc1, hc2⟩ : RA E captured c'))
    · cases hh
  · rename_i recv name e
    split at hh
    · rename_i t v hf
      split at hh
      · rename_i g u hm
        have hv := hr recv _ hf
        generalize hρ : ρ' recv = fv at hv
        cases hv with
        | iface _ hv =>
          rename_i v'
          obtain ⟨u', h1, h2⟩ := methodOf_run (w := w) hm hv (P.types.size + Made.depth - 1)
          have hpos : P.types.size + Made.depth - 1 + 1 = P.types.size + Made.depth := by
            have : 0 < Made.depth := by decide
            omega
          rw [hpos] at h1
          have : (do let d ← resolve ρ' c ty; invoke d.target d.args : Sem Next).run P w = (callFunc g (#[u'] ++ c.args.map ρ')).run P w := by
            simp only [resolve, e, hρ, Sem.run_bind, Sem.run_pure, Result.andThen_ok, invoke]
            have e0 : (#[Value.iface t v'] ++ c.args.map ρ')[0]? = some (.iface t v') := by
              rw [Array.getElem?_append_left (Nat.zero_lt_one)]; rfl
            have e1 : (#[Value.iface t v'] ++ c.args.map ρ').extract 1 (#[Value.iface t v'] ++ c.args.map ρ').size = c.args.map ρ' := by
              apply Array.ext'
              simp
              exact List.take_of_length_le (by simp)
            rw [e0]
            simp only [Sem.run_bind, Sem.run_pure, Result.andThen_ok, callMethod, run_program, h1, e1]
          rw [this]
          refine enterOf_ok r hh ?_
          have := (RA.one h2).append ha
          simpa using this
      · cases hh
    · cases hh

theorem absConvert_ok (r : RW P E h w) {s d : TypeId} {x x' : Value} {o : Out} (hh : absConvert P s d x h = some o) (hx : RV E x x') :
    OutOk P E w ((do pure (.value (← convert s d x')) : Sem Next).run P w) o := by
  unfold absConvert at hh
  split at hh
  · rename_i e b h1 h2
    split at hh
    · rename_i h3
      cases hh
      cases hx
      have : (convert s d (.string b)).run P w = (Conv.stringToBytes e b).run P w := by
        simp only [convert, Sem.run_bind, und_run h1, und_run h2, Result.andThen_ok, und_run h3]
      obtain ⟨E', v', w', g1, g2⟩ := opS2B_run r e b
      exact outNew ⟨E', v', w', this.trans g1, g2⟩
    · cases hh
  · rename_i e a l c h1 h2
    split at hh
    · rename_i h3
      obtain ⟨u, h4, rfl⟩ := valH_eq hh
      obtain ⟨g1, g2⟩ := opB2S_run r h4 hx
      have : (convert s d x').run P w = (Conv.bytesToString x').run P w := by
        cases hx <;> simp [convert, und_run h1, und_run h2, und_run h3]
      exact outVal' r ⟨_, this.trans g1, g2⟩
    · cases hh
  · rename_i e z l h1 h2
    split at hh
    · rename_i h3
      obtain ⟨u, h4, rfl⟩ := valH_eq hh
      obtain ⟨g1, g2⟩ := opB2S_run r h4 hx
      have : (convert s d x').run P w = (Conv.bytesToString x').run P w := by
        rcases vs_inv hx with ⟨rfl, a', cap', rfl⟩ | ⟨b', off, cap, s, c, rfl, h1', h2', h3', h4', h5', h6'⟩ <;> simp [convert, und_run h1, und_run h2, und_run h3]
      exact outVal' r ⟨_, this.trans g1, g2⟩
    · cases hh
  · split at hh
    · rename_i hp
      obtain ⟨u, h4, rfl⟩ := valH_eq hh
      rw [RV.eq_of_plain hp hx]
      obtain ⟨g1, g2⟩ := flatV_run h4 w
      exact outVal' r ⟨_, g1, g2 E⟩
    · obtain ⟨u, h4, rfl⟩ := valH_eq hh
      exact outVal' r (opUnsafe_run r h4 hx)

end

end Go.Ab

/- AbSound3 -/
namespace Go.Ab
set_option linter.unusedVariables false
set_option linter.unusedSimpArgs false

section
variable {P : Program} {E : Ren} {h : AH} {w : World} {ρ : Operand → Option Value} {ρ' : Operand → Value}

theorem eqGuard_run {op : BinOp} {t : TypeId} {x y : Operand} {a b : Value} (hna : ∀ c d, a = .agg c → b = .agg d → False) (hnn : a = .nilIface → b = .nilIface → False) (w : World) :
    (eqGuard op t x y a b).run P w = .ok () w := by
  cases op <;> first
    | rfl
    | (cases a <;> cases b <;> first
        | rfl
        | exact (hnn rfl rfl).elim
        | exact (hna _ _ rfl rfl).elim)

/-- a value that names blocks names blocks in the world too -/
theorem rv_shape {a a' b b' : Value} (ha : RV E a a') (hb : RV E b b') (hp : (plain a && plain b) = false) (hs : ∀ c d, a = .agg c → b = .agg d → False) (ht : ∀ c, a ≠ .tuple c) (op : BinOp) (ho : op = .eql ∨ op = .neq) (t : TypeId) :
    binOp op t a' b' = (match op with | .eql => (do pure (.bool (← Op.equal t a' b')) : Sem Value) | _ => do pure (.bool (!(← Op.equal t a' b')))) := by
  rcases ho with rfl | rfl <;> cases ha <;> cases hb <;> first
    | rfl
    | (simp [plain, plainN] at hp; done)

theorem absBin_ok (r : RW P E h w) {op : BinOp} {t : TypeId} {x y : Operand} {a b a' b' : Value} {o : Out} (hh : absBin P op t x y a b h = some o) (ha : RV E a a') (hb : RV E b b') :
    OutOk P E w ((do pure (.value (← (do eqGuard op t x y a' b'; binOp op t a' b' : Sem Value))) : Sem Next).run P w) o := by
  unfold absBin at hh
  split at hh
  · rename_i hp
    simp only [Bool.and_eq_true] at hp
    obtain ⟨u, h4, rfl⟩ := valH_eq hh
    rw [RV.eq_of_plain hp.1 ha, RV.eq_of_plain hp.2 hb]
    obtain ⟨g1, g2⟩ := flatV_run h4 w
    exact outVal' r ⟨_, g1, g2 E⟩
  · rename_i hp
    have hp' : (plain a && plain b) = false := by simpa using hp
    split at hh
    · cases hh
    · cases hh
    · rename_i ht hs
      have hag : ∀ c d, a' = .agg c → b' = .agg d → False := by
        rintro c d rfl rfl
        cases ha; cases hb
        exact hs _ _ rfl rfl
      have hnn : a' = .nilIface → b' = .nilIface → False := by
        rintro rfl rfl
        cases ha; cases hb
        simp [plain, plainN] at hp'
      have hg := fun w => eqGuard_run (P := P) (op := op) (t := t) (x := x) (y := y) hag hnn w
      split at hh
      · split at hh
        · rename_i c hc
          cases hh
          have he := opEqPtr_run r hc ha hb
          have hbn := rv_shape ha hb hp' (fun c d e1 e2 => hs c d e1 e2) (fun c e => ht c e) .eql (.inl rfl) t
          exact outVal' r ⟨.bool c, by simp [hg, hbn, he], .bool c⟩
        · cases hh
      · split at hh
        · rename_i c hc
          cases hh
          have he := opEqPtr_run r hc ha hb
          have hbn := rv_shape ha hb hp' (fun c d e1 e2 => hs c d e1 e2) (fun c e => ht c e) .neq (.inr rfl) t
          exact outVal' r ⟨.bool (!c), by simp [hg, hbn, he], .bool _⟩
        · cases hh
      · cases hh

theorem absOp_ok (r : RW P E h w) (hr : OpsOk E ρ ρ') {op : Oper} {o : Out} (hh : absOp P ρ op h = some o) : OutOk P E w ((execOp ρ' op).run P w) o := by
  unfold absOp at hh
  unfold execOp
  split at hh
  · rename_i x e
    rw [e]
    obtain ⟨u, h1, rfl⟩ := valH_eq hh
    exact outVal r ⟨_, rfl, hr x u h1⟩
  · rename_i x e
    rw [e]
    obtain ⟨u, h1, rfl⟩ := valH_eq hh
    exact outVal r ⟨_, rfl, hr x u h1⟩
  · rename_i c a b e
    rw [e]
    split at hh
    · rename_i t hc
      obtain ⟨u, h1, rfl⟩ := valH_eq hh
      have hcv := hr c _ hc
      generalize hρ : ρ' c = cv at hcv
      cases hcv
      refine outVal r ⟨if t then ρ' a else ρ' b, by simp [hρ, asBool], ?_⟩
      cases t
      · exact hr b u h1
      · exact hr a u h1
    · cases hh
  · rename_i el e
    rw [e]
    obtain ⟨u, h', h1, rfl⟩ := valP_eq hh
    exact outNew (opAlloc_run r h1)
  · rename_i el x e
    rw [e]
    split at hh
    · rename_i v hv
      cases hh
      exact outNew (opBox_run r (hr x v hv))
    · cases hh
  · rename_i t parts e
    rw [e]
    split at hh
    · rename_i l hl
      obtain ⟨u, h1, rfl⟩ := valH_eq hh
      exact outVal' r (opBuild_run h1 (by simpa using partsOf_ok hr hl) w)
    · cases hh
  · rename_i t n parts e
    rw [e]
    split at hh
    · rename_i l hl
      obtain ⟨u, h', h1, rfl⟩ := valP_eq hh
      exact outNew (opBuildSlice_run r h1 (by simpa using partsOf_ok hr hl))
    · cases hh
  · rename_i t a e
    rw [e]
    split at hh
    · rename_i v hv
      obtain ⟨u, h1, rfl⟩ := valH_eq hh
      exact outVal' r (opLoad_run r h1 (hr a v hv))
    · cases hh
  · rename_i t a x e
    rw [e]
    split at hh
    · rename_i av xv ha hx
      split at hh
      · rename_i h' hs
        cases hh
        obtain ⟨w', h1, h2, h3⟩ := opStore_run r hs (hr a av ha) (hr x xv hx)
        exact ⟨E, w', unit_run h1, h2, h3⟩
      · cases hh
    · cases hh
  · rename_i x e
    rw [e]
    split at hh
    · rename_i v hv
      split at hh
      · rename_i hn
        cases hh
        have hv' := hr x v hv
        refine outVal r ⟨ρ' x, ?_, hv'⟩
        dsimp only
        generalize ρ' x = xv at hv' ⊢
        rw [Bool.or_eq_true] at hn
        rcases hn with hn | hn
        · unfold nilChecked at hn
          split at hn
          · cases hv'; rfl
          · cases hv'; rfl
          · cases hv'; rfl
          · obtain ⟨b', off, c, rfl, h1, h2, h3⟩ := fp_inv hv'; rfl
          · cases hn
        · unfold nilMeth at hn
          split at hn
          case h_2 => cases hn
          rename_i n f c
          split at hn
          case h_2 => cases hn
          rename_i t u h0
          split at hn
          case h_2 => cases hn
          rename_i i hi
          split at hn
          case h_2 => cases hn
          rename_i m hm
          rw [Bool.and_eq_true] at hn
          cases hv' with
          | meth _ hf hc h1 h2 =>
            rename_i f' c'
            have hlt : 0 < f.size := (Array.getElem?_eq_some_iff.1 h0).1
            have h3 := h1 0 _ _ h0 (Array.getElem?_eq_getElem (by omega))
            have h4 : (f'[0]? : Option Value) = some f'[0] := Array.getElem?_eq_getElem (by omega)
            generalize hz : f'[0] = z at h3
            rw [hz] at h4
            cases h3 with
            | iface _ h3 =>
              rename_i u'
              have hpos : P.types.size + Made.depth = (P.types.size + Made.depth - 1) + 1 := by unfold Made.depth; omega
              have hp : m.path.toList = [] := by simpa using hn.1
              have key : (nilAhead (P.types.size + Made.depth) t u' n).run P w = .ok (some false) w := by
                rw [hpos]
                unfold nilAhead
                simp only [Sem.run_bind, typeInfo, run_program, Result.andThen_ok, hi, hm, hp, followBlind, Sem.run_pure]
                have hn2 := hn.2
                split at hn2
                · rename_i hfn; simp [hfn, hi, hm, hp, followBlind]
                · rename_i hfn
                  split at hn2
                  · rename_i hu
                    split at hn2
                    · cases h3; simp [hfn, hi, hm, hp, followBlind, run_underlying hu]
                    · cases hn2
                  · rename_i d hu hne
                    cases d <;> first
                      | (exact absurd rfl (hu _))
                      | simp [hfn, hi, hm, hp, followBlind, run_underlying hne]
                  · cases hn2
                · cases hn2
              simp [h4, key]
      · cases hh
    · cases hh
  · rename_i bo t x y yt e
    rw [e]
    split at hh
    · rename_i a b ha hb
      exact absBin_ok r hh (hr x a ha) (hr y b hb)
    · cases hh
  · rename_i uo t x e
    rw [e]
    split at hh
    · rename_i a ha
      split at hh
      · rename_i hp
        obtain ⟨u, h1, rfl⟩ := valH_eq hh
        obtain ⟨g1, g2⟩ := flatV_run h1 w
        exact outVal' r ⟨_, by rw [plain_eq hr ha hp]; exact g1, g2 E⟩
      · cases hh
    · cases hh
  · rename_i s d x e
    rw [e]
    split at hh
    · rename_i a ha
      exact absConvert_ok r hh (hr x a ha)
    · cases hh
  · rename_i t x e
    rw [e]
    split at hh
    · rename_i a ha
      obtain ⟨u, h1, rfl⟩ := valH_eq hh
      exact outVal' r (opMakeInterface_run h1 (hr x a ha) w)
    · cases hh
  · rename_i f first captured e
    rw [e]
    split at hh
    · rename_i l m hl hm
      cases hh
      have h1 := listOf_ok hr hl
      have h2 := listOf_ok hr hm
      rw [show (first.toList.map ρ').toArray = first.map ρ' by rw [← Array.toList_map, Array.toArray_toList]] at h1
      rw [show (captured.toList.map ρ').toArray = captured.map ρ' by rw [← Array.toList_map, Array.toArray_toList]] at h2
      exact outVal' r ⟨_, rfl, .func _ h1.1 h2.1 h1.2 h2.2⟩
    · cases hh
  · rename_i f first captured e
    rw [e]
    split at hh
    · rename_i l m hl hm
      cases hh
      have h1 := listOf_ok hr hl
      have h2 := listOf_ok hr hm
      rw [show (first.toList.map ρ').toArray = first.map ρ' by rw [← Array.toList_map, Array.toArray_toList]] at h1
      rw [show (captured.toList.map ρ').toArray = captured.map ρ' by rw [← Array.toList_map, Array.toArray_toList]] at h2
      exact outVal' r ⟨_, rfl, .meth _ h1.1 h2.1 h1.2 h2.2⟩
    · cases hh
  · rename_i t l c e
    rw [e]
    split at hh
    · rename_i a b ha hb
      obtain ⟨u, h', h1, rfl⟩ := valP_eq hh
      have hi : ∃ k n k' m, a = .int k n ∧ b = .int k' m := by
        unfold opMakeSlice at h1
        split at h1
        · exact ⟨_, _, _, _, rfl, rfl⟩
        · cases h1
      obtain ⟨k, n, k', m, rfl, rfl⟩ := hi
      have e1 := hr l _ ha
      have e2 := hr c _ hb
      generalize hρ1 : ρ' l = lv at e1
      generalize hρ2 : ρ' c = cv at e2
      cases e1; cases e2
      simp only [hρ1, hρ2]
      exact outNew (opMakeSlice_run r h1)
    · cases hh
  · rename_i t x lo hi e
    rw [e]
    split at hh
    · rename_i v l g hv hl hg
      split at hh
      · rename_i s
        split at hh
        · rename_i hp
          simp only [Bool.and_eq_true] at hp
          obtain ⟨u, h1, rfl⟩ := valH_eq hh
          obtain ⟨g1, g2⟩ := flatV_run h1 w
          have e1 := hr x _ hv
          generalize hρ1 : ρ' x = xv at e1
          cases e1
          simp only [hρ1, optPlain hr hl hp.1, optPlain hr hg hp.2]
          exact outVal' r ⟨_, g1, g2 E⟩
        · cases hh
      · obtain ⟨u, h1, rfl⟩ := valH_eq hh
        obtain ⟨b1, b2⟩ := opSlice_bounds h1
        dsimp only
        rw [optBound hr hl b1, optBound hr hg b2]
        exact outVal' r (opSlice_run r h1 (hr x v hv))
    · cases hh
  · rename_i t x lo hi m e
    rw [e]
    split at hh
    · rename_i v l g mv hv hl hg hm
      obtain ⟨u, h1, rfl⟩ := valH_eq hh
      obtain ⟨b1, b2, b3⟩ := opSlice3_bounds h1
      obtain ⟨k, n, rfl⟩ := b3 _ rfl
      have e3 := hr m _ hm
      generalize hρ3 : ρ' m = mv' at e3
      cases e3
      dsimp only
      rw [optBound hr hl b1, optBound hr hg b2]
      simp only [Option.map_some, hρ3]
      exact outVal' r (opSlice3_run r h1 (hr x v hv))
    · cases hh
  · rename_i s x f e
    rw [e]
    split at hh
    · rename_i a ha
      obtain ⟨u, h1, rfl⟩ := valH_eq hh
      exact outVal' r (opFieldAddr_run h1 (hr x a ha) w)
    · cases hh
  · rename_i s x f e
    rw [e]
    split at hh
    · rename_i a ha
      obtain ⟨u, h1, rfl⟩ := valH_eq hh
      exact outVal' r (opField_run h1 (hr x a ha) w)
    · cases hh
  · rename_i t x i e
    rw [e]
    split at hh
    · rename_i a b ha hb
      obtain ⟨u, h1, rfl⟩ := valH_eq hh
      have hi : ∃ k n, b = .int k n := by
        unfold opIndexAddr at h1
        split at h1
        · exact ⟨_, _, rfl⟩
        · cases h1
      obtain ⟨k, n, rfl⟩ := hi
      have e2 := hr i _ hb
      generalize hρ2 : ρ' i = iv at e2
      cases e2
      simp only [hρ2]
      exact outVal' r (opIndexAddr_run h1 (hr x a ha) w)
    · cases hh
  · rename_i t x i e
    rw [e]
    split at hh
    · rename_i a b ha hb
      obtain ⟨u, h1, rfl⟩ := valH_eq hh
      have hi : ∃ k n, b = .int k n := by
        unfold opIndex at h1
        split at h1
        · exact ⟨_, _, rfl⟩
        · exact ⟨_, _, rfl⟩
        · cases h1
      obtain ⟨k, n, rfl⟩ := hi
      have e2 := hr i _ hb
      generalize hρ2 : ρ' i = iv at e2
      cases e2
      simp only [hρ2]
      exact outVal' r (opIndex_run h1 (hr x a ha) w)
    · cases hh
  · rename_i x st t ok e
    rw [e]
    split at hh
    · rename_i a ha
      obtain ⟨u, h1, rfl⟩ := valH_eq hh
      exact outVal' r (opTypeAssert_run h1 (hr x a ha) w)
    · cases hh
  · rename_i t i e
    rw [e]
    split at hh
    · rename_i a ha
      obtain ⟨u, h1, rfl⟩ := valH_eq hh
      exact outVal' r (opExtract_run h1 (hr t a ha) w)
    · cases hh
  · rename_i c e
    rw [e]
    exact absCall_ok r hr hh
  · rename_i t e
    rw [e]
    cases hh
    exact outNew (opMakeMap_run r t)
  · rename_i t x k ok e
    rw [e]
    split at hh
    · rename_i a b ha hb
      obtain ⟨u, h1, rfl⟩ := valH_eq hh
      exact outVal' r (opLookup_run r h1 (hr x a ha) (hr k b hb))
    · cases hh
  · rename_i t m k x e
    rw [e]
    split at hh
    · rename_i a b c ha hb hc
      split at hh
      · rename_i h' hs
        cases hh
        obtain ⟨w', h1, h2, h3⟩ := opMapUpdate_run r hs (hr m a ha) (hr k b hb) (hr x c hc)
        exact ⟨E, w', unit_run h1, h2, h3⟩
      · cases hh
    · cases hh
  · rename_i t m k x e
    rw [e]
    split at hh
    · rename_i a b c ha hb hc
      split at hh
      · rename_i h' hs
        cases hh
        obtain ⟨w', h1, h2, h3⟩ := opMapUpdate_run r hs (hr m a ha) (hr k b hb) (hr x c hc)
        exact ⟨E, w', unit_run h1, h2, h3⟩
      · cases hh
    · cases hh
  · rename_i t m k e
    rw [e]
    split at hh
    · rename_i a b ha hb
      obtain ⟨u, h', h1, rfl⟩ := valP_eq hh
      exact outNew (opMapEntry_run r h1 (hr m a ha) (hr k b hb))
    · cases hh
  · rename_i t m s x e
    rw [e]
    split at hh
    · rename_i a b c ha hb hc
      split at hh
      · rename_i h' hs
        cases hh
        obtain ⟨w', h1, h2, h3⟩ := opEntryStore_run r hs (hr m a ha) (hr s b hb) (hr x c hc)
        exact ⟨E, w', unit_run h1, h2, h3⟩
      · cases hh
    · cases hh
  · rename_i t x e
    rw [e]
    split at hh
    · rename_i a ha
      obtain ⟨u, h', h1, rfl⟩ := valP_eq hh
      exact outNew (opRange_run r h1 (hr x a ha))
    · cases hh
  · rename_i it s e
    rw [e]
    split at hh
    · rename_i a ha
      obtain ⟨u, h', h1, rfl⟩ := valP_eq hh
      obtain ⟨v', w', g1, g2, g3, g4⟩ := opNext_run (t := op.type) r h1 (hr it a ha)
      exact outNew ⟨E, v', w', g1, g2, g3, g4⟩
    · cases hh
  · rename_i it e
    rw [e]
    split at hh
    · rename_i a ha
      obtain ⟨u, h1, rfl⟩ := valH_eq hh
      exact outVal' r (opEntry_run r h1 (hr it a ha))
    · cases hh
  · cases hh

end

end Go.Ab

/- AbIn -/
namespace Go
set_option linter.unusedVariables false

/-- no fence at all; within a round or without -/
def Ab.Fr : Option Nat → Fence
  | none => Fence.wide
  | some l => Fence.wide.inRound l

theorem Ab.Fr_round (r : Option Nat) : (Ab.Fr r).round = r := by cases r <;> rfl
theorem Ab.Fr_fn (r : Option Nat) (f : FuncId) : (Ab.Fr r).fn f := by cases r <;> trivial
theorem Ab.Fr_depth (r : Option Nat) : (Ab.Fr r).depth = none := by cases r <;> rfl
theorem Ab.Fr_room (r : Option Nat) (n : Nat) : (Ab.Fr r).room n := fun d hd => by rw [Ab.Fr_depth] at hd; cases hd
theorem Ab.Fr_inRound (r : Option Nat) (l : Nat) : (Ab.Fr r).inRound l = Ab.Fr (some l) := by cases r <;> rfl

theorem Ab.callsIn {r : Option Nat} {n : Nat} {P : Program} {f : FuncId} {args : Array Value} {w : World} {R : Ending → World → Prop} (h : Calls P f args w R) : CallsIn (Ab.Fr r) n P f args w R := by
  have h' : CallsIn Fence.wide n P f args w R := callsIn_wide.2 h
  cases r with
  | none => exact h'
  | some l => exact h'.inRound l

theorem Ab.of_callsIn {r : Option Nat} {n : Nat} {P : Program} {f : FuncId} {args : Array Value} {w : World} {R : Ending → World → Prop} (h : CallsIn (Ab.Fr r) n P f args w R) : Calls P f args w R := by
  cases r with
  | none => exact callsIn_wide.1 h
  | some l => exact callsIn_wide.1 (CallsIn.outOfRound h)

abbrev Code.wpR (r : Option Nat) (P : Program) (c : Code) (Q : Exit → Act → World → Prop) (a : Act) (w : World) : Prop := c.wpIn (Ab.Fr r) 0 P Q a w

/-- one operation -/
def Oper.wpR (r : Option Nat) (P : Program) (o : Oper) (a : Act) (w : World) (K : Act → World → Prop) (W : Exit → Act → World → Prop) : Prop := o.wpIn (Ab.Fr r) 0 P a w K W

theorem stepR_scope {P : Program} {b : Frame} {a : Act} {k : List Item} {cs : List Frame} {w : World} {c : Code} :
    step P (lone (b.atR a (.code (.scope c) :: k)) cs w) = .next (lone (b.atR a (.code c :: .inScope c :: k)) cs w) :=
  step_lone_go (by simp [stepG, stepG.exec, Frame.atR])
theorem stepR_inScope {P : Program} {b : Frame} {a : Act} {k : List Item} {cs : List Frame} {w : World} {c : Code} :
    step P (lone (b.atR a (.inScope c :: k)) cs w) = .next (lone (b.atR a k) cs w) :=
  step_lone_go (by simp [stepG, stepG.exec, Frame.atR])

namespace Ab

section
variable {r : Option Nat} {P : Program} {o : Oper} {a : Act} {w w' : World} {K : Act → World → Prop} {W : Exit → Act → World → Prop}

theorem wpR_of (hd : ∀ c, o.op ≠ .defer c) (h : o.uponIn (Fr r) 0 P a K W ((execOp a.eval o).run P w)) : o.wpR r P a w K W := by
  refine ⟨fun f _ => Fr_fn r f, ?_⟩
  rw [Oper.semAt_eq _ _ _ hd]
  exact h

theorem wpR_value {v : Value} (hd : ∀ c, o.op ≠ .defer c) (h1 : (execOp a.eval o).run P w = .ok (.value v) w') (hK : K (a.put o.dst v) w') : o.wpR r P a w K W :=
  wpR_of hd (by rw [h1]; exact hK)
theorem wpR_skip (hd : ∀ c, o.op ≠ .defer c) (h1 : (execOp a.eval o).run P w = .ok .skip w') (hK : K (a.put o.dst undef) w') : o.wpR r P a w K W :=
  wpR_of hd (by rw [h1]; exact hK)
theorem wpR_enter {f : FuncId} {args : Array Value} (hd : ∀ c, o.op ≠ .defer c) (h1 : (execOp a.eval o).run P w = .ok (.enter f args) w') (hK : Calls P f args w' fun
      | .returned v, w'' => K (a.put o.dst v) w''
      | .panicked chain, w'' => W (.panic chain) a w''
      | .outgrown, _ => LetsOut W) : o.wpR r P a w K W :=
  wpR_of hd (by rw [h1]; exact ⟨fun h => (by rw [Fr_depth] at h; cases h), callsIn hK⟩)
theorem wpR_panic {v : Value} (hd : ∀ c, o.op ≠ .defer c) (h1 : (execOp a.eval o).run P w = .halt (.panic v) w') (hW : W (.panic [{ v, recovered := false }]) a w') : o.wpR r P a w K W :=
  wpR_of hd (by rw [h1]; exact hW)
theorem wpR_round {l : Nat} {f : FuncId} {tmps : Array Value} {assign body : Code} (hd : ∀ c, o.op ≠ .defer c) (h1 : (execOp a.eval o).run P w = .ok (.round l f tmps assign body) w')
    (hK : RoundIn (Fr r) 0 P l f tmps assign body w' fun
      | .returned v, w'' => K (a.put o.dst v) w''
      | .panicked chain, w'' => W (.panic chain) a w''
      | .outgrown, _ => LetsOut W) : o.wpR r P a w K W :=
  wpR_of hd (by rw [h1]; exact ⟨fun h => (by rw [Fr_depth] at h; cases h), hK⟩)

theorem abs_nodefer {ρ : Operand → Option Value} {h : AH} {out : Out} (hh : absOp P ρ o h = some out) : ∀ c, o.op ≠ .defer c := by
  intro c e
  unfold absOp at hh
  rw [e] at hh
  cases hh

end

def wpOpsR (r : Option Nat) (P : Program) (ops : Array Oper) (Q : Exit → Act → World → Prop) : List Nat → Act → World → Prop
  | [], a, w => Q .normal a w
  | i :: rest, a, w =>
    match ops[i]? with
    | none => wpOpsR r P ops Q rest a w
    | some o =>
      if Region.wanted o (yielded ops a.tmps) then o.wpR r P a w (wpOpsR r P ops Q rest) Q
      else wpOpsR r P ops Q rest (a.put o.dst undef) w

theorem wpOpsR_in {r : Option Nat} {P : Program} {ops : Array Oper} {Q : Exit → Act → World → Prop} (l : List Nat) : ∀ a w, wpOpsR r P ops Q l a w → wpOpsIn (Fr r) 0 P ops Q l a w := by
  have e : ∀ l, wpOpsR r P ops Q l = wpOpsIn (Fr r) 0 P ops Q l := by
    intro l
    induction l with
    | nil => rfl
    | cons i rest ih =>
      funext a w
      simp only [wpOpsR, wpOpsIn, ih, Oper.wpR]
      cases ops[i]? with
      | none => rfl
      | some o =>
        simp only
        split
        · rfl
        · exact propext ⟨fun h => ⟨fun f _ => Fr_fn r f, h⟩, fun h => h.2⟩
  exact fun a w h => (e l) ▸ h

theorem wpR_region {r : Option Nat} {P : Program} {id : Nat} {ops : Array Oper} {Q : Exit → Act → World → Prop} {a : Act} {w : World} (h : wpOpsR r P ops Q (List.range ops.size) a w) : (Code.region id ops false).wpR r P Q a w :=
  wpIn_region (wpOpsR_in _ _ _ h)
theorem wpR_region_draw {r : Option Nat} {P : Program} {id : Nat} {ops : Array Oper} {Q : Exit → Act → World → Prop} {a : Act} {w : World}
    (h : ∀ t, wpOpsR r P ops Q (Region.schedule (P.follows .mixedOrders) ops t) a { w with drawn := w.drawn + 1 }) : (Code.region id ops true).wpR r P Q a w :=
  wpIn_region_draw fun t => wpOpsR_in _ _ _ (h t)

/-- an object beside the abstract heap -/
theorem RW.beside {P : Program} {E : Ren} {h : AH} {w : World} (r : RW P E h w) (o : Obj) : RW P E h (w.alloc o) ∧ Ext E w E (w.alloc o) := by
  have get : ∀ n, n < w.heap.size → (w.alloc o).heap[n]? = w.heap[n]? := fun n hn => by
    show (w.heap.push o)[n]? = _
    rw [Array.getElem?_push, if_neg (by omega)]
  refine ⟨⟨r.glob, fun k n hk => ?_, r.sdom, fun k o' s hk => ?_, r.inj, fun n c hn => ?_, r.icy, r.sep⟩, ⟨.refl E, fun k n hk => .inl ⟨k, hk⟩, by rw [World.size_alloc]; omega, fun n hn _ => get n hn, rfl, rfl, rfl, Nat.le_refl _, fun n hn => ?_⟩⟩
  · have := r.dom k n hk
    exact ⟨this.1, by rw [World.size_alloc]; omega⟩
  · obtain ⟨n, o2, g1, g2, g3, g4⟩ := r.live k o' s hk
    exact ⟨n, o2, g1, by rw [get n (r.dom k n g1).2]; exact g2, g3, g4⟩
  · obtain ⟨cw, e, fz, g1, g2, g3⟩ := r.frz n c hn
    exact ⟨cw, e, fz, by rw [get n (r.frzLt hn)]; exact g1, g2, g3⟩
  · obtain ⟨c, hc⟩ := Option.isSome_iff_exists.1 hn
    exact get n (r.frzLt hc)

/-- an object beside the abstract heap is changed -/
theorem RW.asideFrom {P : Program} {E : Ren} {h : AH} {w : World} (r : RW P E h w) {b : Nat} (o : Obj) (hb : ∀ k, E.at_ k ≠ some b) (hf : E.fro b = none) : RW P E h (w.putObj b o) := by
  have get : ∀ n, n ≠ b → (w.putObj b o).heap[n]? = w.heap[n]? := fun n hn => World.putObj_heap_other hn
  refine ⟨r.glob, fun k n hk => ?_, r.sdom, fun k o' s hk => ?_, r.inj, fun n c hn => ?_, r.icy, r.sep⟩
  · have := r.dom k n hk
    exact ⟨this.1, by simp; exact this.2⟩
  · obtain ⟨n, o2, g1, g2, g3, g4⟩ := r.live k o' s hk
    exact ⟨n, o2, g1, by rw [get n (fun e => hb k (e ▸ g1))]; exact g2, g3, g4⟩
  · obtain ⟨cw, e, fz, g1, g2, g3⟩ := r.frz n c hn
    exact ⟨cw, e, fz, by rw [get n (fun e => by subst e; rw [hf] at hn; cases hn)]; exact g1, g2, g3⟩

/-- a walk in the old words -/
theorem wpR_of_wp {P : Program} {c : Code} {Q : Exit → Act → World → Prop} {a : Act} {w : World} (h : c.wp P Q a w) : c.wpR none P Q a w := wpIn_wide.2 h
theorem wp_of_wpR {P : Program} {c : Code} {Q : Exit → Act → World → Prop} {a : Act} {w : World} (h : c.wpR none P Q a w) : c.wp P Q a w := wpIn_wide.1 h

end Ab
end Go

/- AbFroz -/
namespace Go.Ab
set_option linter.unusedVariables false
set_option linter.unusedSimpArgs false

/-- a row of the abstract heap is said to stay as it is -/
def Ren.still (E : Ren) (b : Nat) (c : Array Value) : Ren := { at_ := E.at_, soft := E.soft, fro := fun n => if n = b then some c else E.fro n }

/-- a new row, which stays as it is -/
theorem RW.froz {P : Program} {E : Ren} {h : AH} {w : World} (r : RW P E h w) (c : Array Value) (e : TypeId) :
    RW P (E.still w.heap.size c) h { w with heap := w.heap.push (.cells c e (0, 0)) } ∧ Ext E w (E.still w.heap.size c) { w with heap := w.heap.push (.cells c e (0, 0)) } := by
  obtain ⟨r1, x1⟩ := r.beside (.cells c e (0, 0))
  have e1 : w.alloc (.cells c e (0, 0)) = { w with heap := w.heap.push (.cells c e (0, 0)) } := rfl
  rw [e1] at r1 x1
  have le : E.Le (E.still w.heap.size c) := ⟨fun _ _ h => h, fun _ _ _ => rfl, fun _ _ h => h, fun n d hd => by
    simp only [Ren.still]
    rw [if_neg]
    · exact hd
    · rintro rfl
      have := r.frzLt hd
      omega⟩
  refine ⟨⟨r1.glob, r1.dom, r1.sdom, fun k o s hk => ?_, r1.inj, fun n d hd => ?_, fun k o s n hk hn hf => ?_, r1.sep⟩,
    ⟨le, fun k n h => .inl ⟨k, h⟩, x1.size, x1.frame, rfl, rfl, rfl, Nat.le_refl _, x1.ice⟩⟩
  · obtain ⟨n, o', g1, g2, g3, g4⟩ := r1.live k o s hk
    exact ⟨n, o', g1, g2, g3.mono le, g4⟩
  · simp only [Ren.still] at hd
    split at hd
    · rename_i en; subst en; cases hd
      exact ⟨c, e, (0, 0), by simp, Nat.le_refl _, fun _ _ => rfl⟩
    · exact r1.frz n d hd
  · simp only [Ren.still] at hf
    split at hf
    · rename_i en; subst en
      have := (r.dom k _ hn).2
      omega
    · exact r1.icy k o s n hk hn hf

/-- the parts of a slice, in order, and each of so many cells -/
def inOrder (s : Nat) : Nat → List (Nat × Value) → Bool
  | _, [] => true
  | k, (i, v) :: l => i == k && v.cells.size == s && inOrder s (k + 1) l

theorem fillA_order {s : Nat} : ∀ {l : List (Nat × Value)} {k : Nat} {c r : Array Value}, inOrder s k l = true → fillA (fun i => some (i * s, s)) c l = some r →
    r.size = c.size ∧ r.toList.take ((k + l.length) * s) = (c.toList.take (k * s)) ++ flatC (l.map (·.2)) := by
  intro l
  induction l with
  | nil => intro k c r _ h; cases h; simp [flatC]
  | cons x l ih =>
    intro k c r ho h
    obtain ⟨i, v⟩ := x
    simp only [inOrder, Bool.and_eq_true, beq_iff_eq] at ho
    obtain ⟨⟨rfl, hv⟩, ho⟩ := ho
    simp only [fillA] at h
    split at h
    · cases h
    rename_i hc
    have hb : i * s + s ≤ c.size := by
      simp only [Bool.or_eq_true, decide_eq_true_eq, not_or] at hc
      omega
    obtain ⟨h1, h2⟩ := ih ho h
    have hsz : (setFrom c (i * s) v.cells.toList).size = c.size := setFrom_size ..
    refine ⟨by rw [h1, hsz], ?_⟩
    have e1 : (i + (l.length + 1)) * s = (i + 1 + l.length) * s := by rw [show i + (l.length + 1) = i + 1 + l.length by omega]
    rw [List.length_cons, e1, h2]
    have e2 : (setFrom c (i * s) v.cells.toList).toList.take ((i + 1) * s) = c.toList.take (i * s) ++ v.cells.toList := by
      apply List.ext_getElem?
      intro j
      rw [List.getElem?_take, List.getElem?_append, Array.getElem?_toList, setFrom_get]
      simp only [Array.length_toList, List.length_take]
      rw [Nat.succ_mul]
      by_cases hj : j < i * s
      · rw [if_pos (by omega), if_neg (by omega), if_pos (by omega), List.getElem?_take, if_pos hj, Array.getElem?_toList]
      · by_cases hj2 : j < i * s + s
        · rw [if_pos hj2, if_pos (by omega), if_neg (by omega)]
          congr 1
          omega
        · rw [if_neg hj2, if_neg (by omega), List.getElem?_eq_none]
          simp
          omega
    rw [e2]
    simp [flatC]

/-- a slice that is built, and whose elements stay as they are -/
def opBuildFroz (P : Program) (t : TypeId) (len : Nat) (parts : List (Nat × Value)) : Option Value :=
  match P.underlying t with
  | some (.slice elem) => match P.info? elem with
    | some d => if len * d.size > 2 ^ 24 ∨ d.size = 0 ∨ parts.length ≠ len ∨ inOrder d.size 0 parts = false then none else match zerosOf P elem len with
      | some z => match fillA (fun i => some (i * d.size, d.size)) z parts with
        | some _ => some (VSl (parts.map (·.2)))
        | none => none
      | none => none
    | none => none
  | _ => none

theorem opBuildFroz_run {P : Program} {E : Ren} {h : AH} {w : World} (r : RW P E h w) {t : TypeId} {len : Nat} {l : List (Nat × Value)} {l' : Array (Nat × Value)} {v : Value}
    (hh : opBuildFroz P t len l = some v) (hp : Parts E l l'.toList) :
    ∃ E' v' w', (Instr.buildSlice t len l').run P w = .ok v' w' ∧ RW P E' h w' ∧ Ext E w E' w' ∧ RV E' v v' := by
  unfold opBuildFroz at hh
  split at hh
  · rename_i elem e
    split at hh
    · rename_i d hd
      split at hh
      · cases hh
      · rename_i hlim
        simp only [not_or] at hlim
        obtain ⟨hlim, hs0, hlen, hord⟩ := hlim
        split at hh
        · rename_i z hz
          split at hh
          · rename_i c hc
            cases hh
            obtain ⟨i, hi, hra, hcase⟩ := zerosOf_eq hz w
            rw [hd] at hi; cases hi
            obtain ⟨c', h1, h2⟩ := fillA_run hp (hra E) hc
            obtain ⟨q1, q2⟩ := fillA_order (by simpa using hord) hc
            obtain ⟨g1, g2⟩ := r.froz c' elem
            have hzs : z.size = len * d.size := by
              rcases hcase with ⟨h0, rfl⟩ | ⟨h0, z', _, rfl⟩
              · rw [h0]; rfl
              · simp
            have hcs : c.size = l.length * d.size := by rw [q1, hzs]; rw [Decidable.not_not.1 hlen]
            have hflat : c.toList = flatC (l.map (·.2)) := by
              have := q2
              rw [Nat.zero_add, Nat.zero_mul, List.take_zero, List.nil_append, List.take_of_length_le (by rw [Array.length_toList, hcs]; omega)] at this
              exact this
            have hsz : ∀ v ∈ l.map (·.2), v.cells.size = d.size := by
              have : ∀ (l : List (Nat × Value)) k, inOrder d.size k l = true → ∀ v ∈ l.map (·.2), v.cells.size = d.size := by
                intro l
                induction l with
                | nil => intro k _ v hv; cases hv
                | cons x l ih =>
                  intro k ho v hv
                  obtain ⟨i, u⟩ := x
                  simp only [inOrder, Bool.and_eq_true, beq_iff_eq] at ho
                  rcases List.mem_cons.1 hv with rfl | hv
                  · exact ho.1.2
                  · exact ih _ ho.2 v hv
              exact this l 0 (by simpa using hord)
            refine ⟨_, .slice (some ⟨w.heap.size, 0, none⟩) len len, _, ?_, g1, g2, ?_⟩
            · rcases hcase with ⟨h0, rfl⟩ | ⟨h0, z', hz', rfl⟩
              · simp only [Instr.buildSlice, Sem.run_bind, und_run e, Result.andThen_ok, siz_run hd, if_neg hlim, if_pos h0, Sem.run_pure]
                have : (Array.range (len * d.size)).map (fun k => (#[] : Array Value)[k % (#[] : Array Value).size]!) = #[] := by rw [h0]; simp
                rw [this, h1]
                simp [newRow, run_newObj]
              · simp only [Instr.buildSlice, Sem.run_bind, und_run e, Result.andThen_ok, siz_run hd, if_neg hlim, if_neg h0, hz', Sem.run_pure]
                rw [h1]
                simp [newRow, run_newObj]
            · have hll : (l.map (·.2)).length = len := by rw [List.length_map]; exact Decidable.not_not.1 hlen
              have := RV.vs (E := E.still w.heap.size c') (l := l.map (·.2)) (b' := w.heap.size) (off := 0) (cap := len) (s := d.size) (c := c') (by simp [Ren.still]) (by omega) hsz
                (by rw [← h2.1, hcs, List.length_map]; omega) (by omega) fun i v v' hv hv' => by
                  rw [← hflat, Array.getElem?_toList] at hv
                  rw [Nat.zero_add] at hv'
                  exact (h2.2 i v v' hv hv').mono g2.le
              rw [hll] at this
              exact this
          · cases hh
        · cases hh
    · cases hh
  · cases hh

/-- does just append read what the operation yields, as what is put behind? -/
def varArg (ops : Array Oper) (o : Oper) : Bool := match o.op, o.dst with
  | .buildSlice .., some d => ops.all fun x => match x.op with
    | .call c => match c.callee, c.args.toList with
      | .builtin .append, [.tmp s, _] => s != d
      | _, l => l.all fun y => match y with | .tmp s => s != d | _ => true
    | op => op.operands.all fun y => match y with | .tmp s => s != d | _ => true
  | _, _ => false

def frozOf (P : Program) (ρ : Operand → Option Value) (o : Oper) : Option Value := match o.op with
  | .buildSlice t n parts => match partsOf ρ parts.toList with
    | some l => opBuildFroz P t n l
    | none => none
  | _ => none

theorem frozOf_ok {P : Program} {E : Ren} {h : AH} {w : World} {ρ : Operand → Option Value} {ρ' : Operand → Value} (r : RW P E h w) (hr : OpsOk E ρ ρ') {o : Oper} {v : Value} (hh : frozOf P ρ o = some v) :
    (∀ c, o.op ≠ .defer c) ∧ ∃ E' v' w', (execOp ρ' o).run P w = .ok (.value v') w' ∧ RW P E' h w' ∧ Ext E w E' w' ∧ RV E' v v' := by
  unfold frozOf at hh
  split at hh
  · rename_i t n parts e
    split at hh
    · rename_i l hl
      obtain ⟨E', v', w', h1, h2, h3, h4⟩ := opBuildFroz_run (l' := parts.map fun (i, x) => (i, ρ' x)) r hh (by simpa using partsOf_ok hr hl)
      refine ⟨fun c hc => (by rw [e] at hc; cases hc), E', v', w', ?_, h2, h3, h4⟩
      unfold execOp
      rw [e]
      exact val_run h1
    · cases hh
  · cases hh

end Go.Ab

/- AbSound4 -/
namespace Go.Ab
set_option linter.unusedVariables false
set_option linter.unusedSimpArgs false

/-- temporaries, and what they are in the world -/
structure RT (E : Ren) (a : AA) (tmps : Array Value) : Prop where
  size : tmps.size = a.n
  get : ∀ t v, a.get t = some v → RV E v (tmps.getD t undef)

theorem RT.mono {E E' : Ren} (le : E.Le E') {a : AA} {t : Array Value} (h : RT E a t) : RT E' a t := ⟨h.size, fun k v e => (h.get k v e).mono le⟩

theorem rv_undef {E : Ren} : RV E undef undef := .tuple rfl fun i v v' h _ => by simp at h

theorem getD_set (c : Array Value) (d t : Nat) (v : Value) : (c.setIfInBounds d v).getD t undef = if d = t ∧ d < c.size then v else c.getD t undef := by
  simp only [Array.getD_eq_getD_getElem?, Array.getElem?_setIfInBounds]
  by_cases h : d = t
  · subst h
    by_cases h2 : d < c.size
    · simp [h2]
    · simp [h2]
  · simp [h]

theorem AA.get_put (a : AA) (d t : Nat) (v : Value) : (a.put (some d) v).get t = if d = t ∧ d < a.n then some v else a.get t := by
  unfold AA.put AA.get
  by_cases h2 : d < a.n
  · simp only [h2, if_true, and_true]
    rw [T.get_put _ _ _ _ _ (by omega) (Nat.le_refl _) (by omega)]
    by_cases h : d = t
    · subst h; simp
    · rw [if_neg (by omega), if_neg h]
  · simp [h2]

theorem RT.put {E : Ren} {a : AA} {x : Act} (h : RT E a x.tmps) (d : Option Tmp) {v v' : Value} (hv : RV E v v') : RT E (a.put d v) (x.put d v').tmps := by
  cases d with
  | none => exact h
  | some d =>
    refine ⟨?_, fun t u hu => ?_⟩
    · simp only [Act.put, AA.put, Array.size_setIfInBounds, h.size]
      split <;> rfl
    · rw [AA.get_put] at hu
      simp only [Act.put]
      rw [getD_set, h.size]
      split
      · rename_i e; rw [if_pos e] at hu; cases hu; exact hv
      · rename_i e; rw [if_neg e] at hu; exact h.get t u hu

theorem RT.opnd {P : Program} {E : Ren} {h : AH} {w : World} (r : RW P E h w) {a : AA} {x : Act} (ht : RT E a x.tmps) : OpsOk E (a.opnd P) x.eval := by
  intro o v hv
  cases o with
  | tmp t => exact ht.get t v hv
  | const u =>
    simp only [AA.opnd] at hv
    split at hv
    · rename_i hp; cases hv; exact RV.of_plain hp
    · cases hv
  | global g =>
    simp only [AA.opnd] at hv
    split at hv
    · rename_i hg; cases hv; exact .ptr (r.glob g hg)
    · cases hv
  | func f => cases hv; exact .func _ rfl rfl (fun i v v' h _ => by simp at h) (fun i v v' h _ => by simp at h)

theorem RT.yielded {E : Ren} {a : AA} {x : Act} (ht : RT E a x.tmps) (ops : Array Oper) {o : Oper} (hk : a.knows ops o = true) :
    Region.wanted o (a.yielded ops) = Region.wanted o (Go.yielded ops x.tmps) := by
  unfold Region.wanted
  unfold AA.knows at hk
  cases hg : o.guard with
  | none => rfl
  | some jw =>
    obtain ⟨j, want⟩ := jw
    rw [hg] at hk
    simp only at hk ⊢
    congr 1
    unfold AA.yielded Go.yielded
    cases hd : (ops[j]?).bind (·.dst) with
    | none => rfl
    | some d =>
      rw [hd] at hk
      simp only [Option.bind_some] at hk ⊢
      by_cases h : d < a.n
      · rw [if_pos h] at hk ⊢
        obtain ⟨v, hv⟩ := Option.isSome_iff_exists.1 hk
        have hr := ht.get d v hv
        rw [Array.getD_eq_getD_getElem?] at hr
        have hlt : d < x.tmps.size := by rw [ht.size]; exact h
        rw [Array.getElem?_eq_getElem hlt] at hr ⊢
        simp only [Option.getD_some] at hr
        rw [hv]
        generalize x.tmps[d] = u at hr ⊢
        cases hr <;> rfl
      · rw [if_neg h]
        rw [Array.getElem?_eq_none (Nat.le_of_not_lt (by rw [ht.size]; exact h))]

theorem RT.less {E : Ren} {a b : AA} {t : Array Value} (h : RT E a t) (hn : b.n = a.n) (hg : ∀ k v, b.get k = some v → a.get k = some v) : RT E b t :=
  ⟨by rw [hn]; exact h.size, fun k v e => h.get k v (hg k v e)⟩

theorem AA.keep_n (a : AA) : ∀ l, (a.keep l).n = a.n := by
  intro l
  induction l with
  | nil => rfl
  | cons t l ih =>
    simp only [AA.keep]
    split
    · rfl
    · exact ih

theorem AA.keep_cons (a : AA) (t : Nat) (l : List Nat) (k : Nat) : (a.keep (t :: l)).get k = if k = t ∧ (a.get t).isSome then a.get t else (a.keep l).get k := by
  simp only [AA.keep]
  cases h : a.get t with
  | none => simp
  | some v =>
    unfold AA.get
    simp only
    rw [T.get_put _ _ _ _ _ (by omega) (Nat.le_refl _) (by omega)]
    by_cases e : k = t
    · subst e; simp
    · rw [if_neg (by omega)]; simp [e]

theorem AA.keep_get (a : AA) : ∀ l k v, (a.keep l).get k = some v → a.get k = some v := by
  intro l
  induction l with
  | nil => intro k v h; simp [AA.keep, AA.get, T.get] at h
  | cons t l ih =>
    intro k v h
    rw [AA.keep_cons] at h
    split at h
    · rename_i e; rw [e.1]; exact h
    · exact ih k v h

theorem AA.keep_mem (a : AA) : ∀ l, ∀ t ∈ l, (a.keep l).get t = a.get t := by
  intro l
  induction l with
  | nil => intro t ht; cases ht
  | cons s l ih =>
    intro t ht
    rw [AA.keep_cons]
    split
    · rename_i e; rw [e.1]
    · rename_i e
      rcases List.mem_cons.1 ht with rfl | hm
      · cases hk : (a.keep l).get t with
        | none =>
          cases hv : a.get t with
          | none => rfl
          | some v => exact absurd ⟨rfl, by rw [hv]; rfl⟩ e
        | some v => rw [AA.keep_get a l t v hk]
      · exact ih t hm

theorem AA.keep_only (a : AA) : ∀ l t v, (a.keep l).get t = some v → t ∈ l := by
  intro l
  induction l with
  | nil => intro t v h; simp [AA.keep, AA.get, T.get] at h
  | cons s l ih =>
    intro t v h
    rw [AA.keep_cons] at h
    split at h
    · rename_i e; rw [e.1]; simp
    · exact List.mem_cons_of_mem _ (ih t v h)

theorem RT.keep {E : Ren} {a : AA} {t : Array Value} (h : RT E a t) (l : List Nat) : RT E (a.keep l) t := h.less (a.keep_n l) (a.keep_get l)

/-- that a call does in a world what it does on the abstract heap -/
def CallOk (P : Program) (call : CallF) : Prop := ∀ f args h v q h', call f args h = some (v, q, h') → (q = false → h' = h) ∧ ∀ E w args', RW P E h w → RA E args args' →
  Calls P f args' w fun e w' => ∃ E' v', e = .returned v' ∧ RW P E' h' w' ∧ Ext E w E' w' ∧ RV E' v v'

theorem absOps_wp {P : Program} {ro : Option Nat} {D : List Deferred} {call : CallF} (hc : CallOk P call) {ops : Array Oper} {Q : Exit → Act → World → Prop} : ∀ (l : List Nat) {a : AA} {h : AH} {a₂ : AA} {h₂ : AH},
    absOps P call ops l a h = some (a₂, h₂) → ∀ {E : Ren} {w : World} {x : Act}, RW P E h w → RT E a x.tmps → x.defers = D →
    (∀ E' w' y, RW P E' h₂ w' → Ext E w E' w' → RT E' a₂ y.tmps → y.defers = D → Q .normal y w') → wpOpsR ro P ops Q l x w := by
  intro l
  induction l with
  | nil =>
    intro a h a₂ h₂ hh E w x r rt hd k
    cases hh
    exact k E w x r (.refl E w) rt hd
  | cons i rest ih =>
    intro a h a₂ h₂ hh E w x r rt hd k
    simp only [absOps] at hh
    simp only [wpOpsR]
    cases ho : ops[i]? with
    | none =>
      rw [ho] at hh
      exact ih hh r rt hd k
    | some o =>
      rw [ho] at hh
      simp only at hh ⊢
      have hput : ∀ (d : Option Tmp) (v : Value), (x.put d v).defers = D := fun d v => by cases d <;> exact hd
      split at hh
      case isFalse => cases hh
      rename_i hk
      rw [← rt.yielded ops hk]
      split at hh
      · rename_i hw
        rw [if_pos hw]
        split at hh
        · rename_i v h' hop
          obtain ⟨E', v', w', h1, h2, h3, h4⟩ := absOp_ok r (rt.opnd r) hop
          refine wpR_value (abs_nodefer hop) h1 ?_
          exact ih hh h2 ((rt.mono h3.le).put o.dst h4) (hput _ _) fun E'' w'' y q1 q2 q3 q4 => k E'' w'' y q1 (h3.trans q2) q3 q4
        · rename_i h' hop
          obtain ⟨E', w', h1, h2, h3⟩ := absOp_ok r (rt.opnd r) hop
          refine wpR_skip (abs_nodefer hop) h1 ?_
          exact ih hh h2 ((rt.mono h3.le).put o.dst rv_undef) (hput _ _) fun E'' w'' y q1 q2 q3 q4 => k E'' w'' y q1 (h3.trans q2) q3 q4
        · rename_i f args h' hop
          obtain ⟨E', args', w', h1, h2, h3, h4⟩ := absOp_ok r (rt.opnd r) hop
          split at hh
          · rename_i v q h'' hcall
            refine wpR_enter (abs_nodefer hop) h1 ?_
            refine ((hc f args h' v q h'' hcall).2 E' w' args' h2 h4).mono ?_
            rintro e w'' ⟨E'', v', rfl, q1, q2, q3⟩
            exact ih hh q1 (((rt.mono h3.le).mono q2.le).put o.dst q3) (hput _ _) fun E3 w3 y p1 p2 p3 p4 => k E3 w3 y p1 ((h3.trans q2).trans p2) p3 p4
          · cases hh
        · cases hh
      · rename_i hw
        rw [if_neg hw]
        exact ih hh r (rt.put o.dst rv_undef) (hput _ _) k

/-- what code comes to -/
def CodeOk (P : Program) (c : Code) (f : AA → AH → Option (AX × AA × AH)) : Prop := ∀ {a : AA} {h : AH} {e : AX} {a₂ : AA} {h₂ : AH}, f a h = some (e, a₂, h₂) →
  ∀ {ro : Option Nat} {D : List Deferred} {E : Ren} {w : World} {x : Act} {Q : Exit → Act → World → Prop}, RW P E h w → RT E a x.tmps → x.defers = D →
    (∀ E' w' y, RW P E' h₂ w' → Ext E w E' w' → RT E' a₂ y.tmps → y.defers = D → Q e.toExit y w') → c.wpR ro P Q x w

theorem loopN_ok {P : Program} {c : Code} {f : AA → AH → Option (AX × AA × AH)} (hf : CodeOk P c f) (k : Nat) : CodeOk P (.loop c) (loopN f k) := by
  intro a h e a₂ h₂ hh ro D E w x Q r rt hd hQ
  intro b rest cs hro hb hr
  have key : ∀ n a h, loopN f n a h = some (e, a₂, h₂) → ∀ E' v (y : Act), RW P E' h v → RT E' a y.tmps → y.defers = D → Ext E w E' v →
      ∃ e' a' w', Q e' a' w' ∧ ArrivesIn (Machine.fenced P (Fr ro)) P (lone (b.atR y (.code c :: .inLoop c :: rest)) cs v) b rest cs e' a' w' := by
    intro n
    induction n with
    | zero => intro a h hh; cases hh
    | succ n ih =>
      intro a h hh E' v y r rt hd x
      simp only [loopN] at hh
      split at hh
      · rename_i a' h' hbody
        obtain ⟨e1, a1, w1, hq, harr⟩ := (hf hbody (ro := ro) (D := D) (Q := fun e' y' v' => e' = .normal ∧ ∃ E'', RW P E'' h' v' ∧ Ext E' v E'' v' ∧ RT E'' a' y'.tmps ∧ y'.defers = D) r rt hd
          (fun E'' w' y q1 q2 q3 q4 => ⟨rfl, E'', q1, q2, q3, q4⟩)) b (.inLoop c :: rest) cs hro hb hr
        obtain ⟨rfl, E'', q1, q2, q3, q4⟩ := hq
        obtain ⟨e2, a2, w2, hq2, harr2⟩ := ih a' h' hh E'' w1 a1 q1 q3 q4 (x.trans q2)
        exact ⟨e2, a2, w2, hq2, .of_steps (StepsIn.trans harr (.one (fenced_calm hb hr rfl) stepR_inLoop)) harr2⟩
      · rename_i hne
        obtain ⟨e1, a1, w1, hq, harr⟩ := (hf hh (ro := ro) (D := D) (Q := fun e' y' v' => e' = e.toExit ∧ Q e' y' v') r rt hd
          (fun E'' w' y q1 q2 q3 q4 => ⟨rfl, hQ E'' w' y q1 (x.trans q2) q3 q4⟩)) b (.inLoop c :: rest) cs hro hb hr
        obtain ⟨he, hq⟩ := hq
        have hnn : e1 ≠ .normal := by
          rintro rfl
          cases e with
          | normal => exact hne _ _ hh
          | _ => cases he
        exact ⟨e1, a1, w1, hq, .pass (x := .inLoop c) rfl (fun _ _ => .inl hnn) harr⟩
  obtain ⟨e', a', w', hq, harr⟩ := key k a h hh E w x r rt hd (.refl E w)
  exact ⟨e', a', w', hq, .of_steps (.one (fenced_calm hb hr rfl) stepR_loop) harr⟩

theorem tmsOf_get : ∀ (l : List Value) (k : Nat) (t : T Value) (i : Nat), (tmsOf k l t).get (i + 1) = if k ≤ i ∧ i < k + l.length then l[i - k]? else t.get (i + 1) := by
  intro l
  induction l with
  | nil => intro k t i; rw [tmsOf, if_neg (by simp only [List.length_nil]; omega)]
  | cons v l ih =>
    intro k t i
    rw [tmsOf, ih, T.get_put _ _ _ _ _ (by omega) (Nat.le_refl _) (by omega)]
    simp only [List.length_cons]
    by_cases h : k + 1 ≤ i ∧ i < k + 1 + l.length
    · rw [if_pos h, if_pos (by omega)]
      have : i - k = (i - (k + 1)) + 1 := by omega
      rw [this, List.getElem?_cons_succ]
    · rw [if_neg h]
      by_cases hk : i = k
      · subst hk; rw [if_pos rfl, if_pos (by omega)]; try simp
      · rw [if_neg (by omega), if_neg (by omega)]

theorem RT.start {E : Ren} {args args' : Array Value} (h : RA E args args') (n : Nat) :
    RT E ⟨tmsOf 0 args.toList .leaf, args.size + (n - args.size), {}⟩ (args' ++ Array.replicate (n - args'.size) undef) := by
  refine ⟨by simp [h.1], fun t v hv => ?_⟩
  unfold AA.get at hv
  rw [tmsOf_get] at hv
  rw [Array.getD_eq_getD_getElem?]
  simp only [Nat.zero_le, Nat.zero_add, Array.length_toList, true_and, Nat.sub_zero] at hv
  by_cases ht : t < args.size
  · rw [if_pos ht] at hv
    rw [Array.getElem?_append_left (by rw [← h.1]; exact ht)]
    have h1 : args[t]? = some args[t] := Array.getElem?_eq_getElem ht
    obtain ⟨v', h2, h3⟩ := h.get h1
    rw [Array.getElem?_toList, h1] at hv
    cases hv
    rw [h2]
    exact h3
  · rw [if_neg ht] at hv
    simp [T.get] at hv

theorem resultsOf_run {P : Program} {E : Ren} {h : AH} {w : World} (r : RW P E h w) {a : AA} {tmps : Array Value} (rt : RT E a tmps) : ∀ {l : List ResultVar} {vs : List Value}, resultsOf P a h l = some vs →
    ∃ vs', (l.mapM fun
      | .tmp t => pure (tmps.getD t undef)
      | .cell a t => do loadVar t (← asAddr (tmps.getD a undef)) : Sem (List Value)).run P w = .ok vs' w ∧ RA E vs.toArray vs'.toArray ∧ vs'.length = vs.length := by
  intro l
  induction l with
  | nil => intro vs h; cases h; exact ⟨[], rfl, .empty, rfl⟩
  | cons x l ih =>
    intro vs hh
    unfold resultsOf at hh
    split at hh
    · cases ‹_ :: _ = []›
    · rename_i t l' heq
      cases heq
      split at hh
      · rename_i v us hv hus
        cases hh
        obtain ⟨vs', h1, h2, h3⟩ := ih hus
        refine ⟨tmps.getD t undef :: vs', ?_, ?_, by simp [h3]⟩
        · rw [List.mapM_cons]
          simp only [Sem.run_bind, Sem.run_pure, Result.andThen_ok, h1]
        · have := (RA.one (rt.get t v hv)).append h2
          simpa using this
      · cases hh
    · rename_i c t l' heq
      cases heq
      split at hh
      · rename_i v us hv hus
        cases hh
        obtain ⟨vs', h1, h2, h3⟩ := ih hus
        rw [Option.bind_eq_some_iff] at hv
        obtain ⟨cv, hcv, hv⟩ := hv
        have hcp := rt.get c cv hcv
        obtain ⟨v', g1, g2⟩ := opLoad_run r hv hcp
        have g3 : (do loadVar t (← asAddr (tmps.getD c undef)) : Sem Value).run P w = .ok v' w := by
          unfold opLoad at hv
          split at hv
          · rename_i ad
            generalize tmps.getD c undef = u at hcp g1 ⊢
            cases hcp
            simpa [Instr.loadAt, Instr.sureAddr, asAddr] using g1
          · obtain ⟨b', off, c', e1, _⟩ := fp_inv hcp
            rw [e1] at g1 ⊢
            simpa [Instr.loadAt, Instr.sureAddr, asAddr] using g1
          · cases hv
        refine ⟨v' :: vs', ?_, ?_, by simp [h3]⟩
        · rw [List.mapM_cons]
          simp only [Sem.run_bind] at g3
          simp only [Sem.run_bind, Sem.run_pure, Result.andThen_ok, g3, h1]
        · have := (RA.one g2).append h2
          simpa using this
      · cases hh

theorem results_run {P : Program} {E : Ren} {h : AH} {w : World} (r : RW P E h w) {a : AA} {tmps : Array Value} (rt : RT E a tmps) {fn : Func} {vs : List Value} (hh : resultsOf P a h fn.results.toList = some vs) :
    ∃ v', (results fn tmps).run P w = .ok v' w ∧ RV E (oneOf vs) v' := by
  obtain ⟨vs', h1, h2, h3⟩ := resultsOf_run r rt hh
  have hm : (results fn tmps).run P w = .ok (if h : vs'.toArray.size = 1 then vs'.toArray[0] else .tuple vs'.toArray) w := by
    unfold results
    rw [Array.mapM_eq_mapM_toList]
    simp only [Sem.run_bind, Sem.run_map, Sem.run_pure]
    erw [h1]
    rfl
  rw [hm]
  match vs, vs', h3, h2 with
  | [v], [v'], _, h2 =>
    refine ⟨v', rfl, ?_⟩
    exact h2.2 0 v v' (by simp) (by simp)
  | [], [], _, h2 => exact ⟨_, rfl, RV.tup h2⟩
  | a :: b :: l, a' :: b' :: l', h3, h2 =>
    refine ⟨.tuple (a' :: b' :: l').toArray, ?_, RV.tup h2⟩
    rw [dif_neg (by simp)]

end Go.Ab

/- AbCut -/
namespace Go.Ab
set_option linter.unusedVariables false
set_option linter.unusedSimpArgs false

/-- no block at or above n is named in it -/
inductive Below (n : Nat) : Value → Prop
  | bool (b : Bool) : Below n (.bool b)
  | int (k : IntKind) (m : Int) : Below n (.int k m)
  | float (k : FloatKind) (b : Nat) : Below n (.float k b)
  | complex (k : FloatKind) (a b : Nat) : Below n (.complex k a b)
  | string (s : ByteArray) : Below n (.string s)
  | nilPtr : Below n (.pointer none)
  | ptr {a : Addr} (h : a.block < n) : Below n (.pointer (some a))
  | nilSlice (l c : Nat) : Below n (.slice none l c)
  | slice {a : Addr} (l c : Nat) (h : a.block < n) : Below n (.slice (some a) l c)
  | nilMap : Below n (.map none)
  | map {r : Nat} (h : r < n) : Below n (.map (some r))
  | nilChan : Below n (.chan none)
  | yld {k : Nat} (h : k < n) : Below n (.chan (some k))
  | func (fn : FuncId) {f c : Array Value} (hf : ∀ v ∈ f.toList, Below n v) (hc : ∀ v ∈ c.toList, Below n v) : Below n (.func (.func fn) f c)
  | meth (m : String) {f c : Array Value} (hf : ∀ v ∈ f.toList, Below n v) (hc : ∀ v ∈ c.toList, Below n v) : Below n (.func (.method m) f c)
  | vs {l : Array Value} (h : ∀ v ∈ flatC l.toList, Below n v) : Below n (.func (.yield 0) #[] l)
  | fp {l : Array Value} (h : ∀ v ∈ l.toList, Below n v) : Below n (.func (.yield 1) #[] l)
  | nilFunc : Below n .nilFunc
  | iface (t : TypeId) {v : Value} (h : Below n v) : Below n (.iface t v)
  | nilIface : Below n .nilIface
  | agg {c : Array Value} (h : ∀ v ∈ c.toList, Below n v) : Below n (.agg c)
  | tuple {c : Array Value} (h : ∀ v ∈ c.toList, Below n v) : Below n (.tuple c)

theorem mem_at {c : Array Value} {v : Value} {i : Nat} (h : c[i]? = some v) : v ∈ c.toList := List.mem_of_getElem? (by simpa using h)

theorem RV.isBelow {E : Ren} {n : Nat} (hE : ∀ k m, E.at_ k = some m → k < n) (hS : ∀ k, (E.soft k).isSome = true → k < n) {v v' : Value} (h : RV E v v') : Below n v := by
  have key : ∀ {c c' : Array Value}, c.size = c'.size → (∀ (i : Nat) v v', c[i]? = some v → c'[i]? = some v' → Below n v) → ∀ v ∈ c.toList, Below n v := by
    intro c c' hs hh v hv
    obtain ⟨i, hi⟩ := List.mem_iff_getElem?.1 hv
    rw [Array.getElem?_toList] at hi
    have hlt := (Array.getElem?_eq_some_iff.1 hi).1
    exact hh i v _ hi (Array.getElem?_eq_getElem (hs ▸ hlt))
  induction h with
  | bool b => exact .bool b
  | int k n => exact .int k n
  | float k b => exact .float k b
  | complex k a b => exact .complex k a b
  | string s => exact .string s
  | nilPtr => exact .nilPtr
  | ptr h => exact .ptr (hE _ _ h)
  | nilSlice l c => exact .nilSlice l c
  | slice h hs => exact .slice _ _ (hE _ _ h)
  | softSlice h hs ho hc hle => exact .slice _ _ (hE _ _ h)
  | stub hs => exact .slice _ _ (hS _ hs)
  | nilMap => exact .nilMap
  | map h => exact .map (hE _ _ h)
  | nilChan => exact .nilChan
  | yld h => exact .yld (hE _ _ h)
  | func fn hf hc _ _ i1 i2 => exact .func fn (key hf i1) (key hc i2)
  | meth fn hf hc _ _ i1 i2 => exact .meth fn (key hf i1) (key hc i2)
  | vs hf hs hl hn hc h ih =>
    rename_i l b' off cap s c
    refine .vs fun v hv => ?_
    obtain ⟨i, hi⟩ := List.mem_iff_getElem?.1 hv
    have hlt := (List.getElem?_eq_some_iff.1 hi).1
    rw [List.toList_toArray, flatC_length hl] at hlt
    exact ih i v _ hi (Array.getElem?_eq_getElem (show off + i < c.size by omega))
  | vs0 => exact .vs fun v hv => by simp [flatC] at hv
  | fp hf hn h ih =>
    rename_i d b' off c
    refine .fp fun v hv => ?_
    obtain ⟨i, hi⟩ := List.mem_iff_getElem?.1 hv
    have hlt := (List.getElem?_eq_some_iff.1 hi).1
    rw [Array.length_toList] at hlt
    exact ih i v _ (by simpa using hi) (Array.getElem?_eq_getElem (show off + i < c.size by omega))
  | nilFunc => exact .nilFunc
  | iface t _ ih => exact .iface t ih
  | nilIface => exact .nilIface
  | agg hn _ ih => exact .agg (key hn ih)
  | tuple hn _ ih => exact .tuple (key hn ih)

/-- the keys at and above n are forgotten -/
def Ren.cut (E : Ren) (n : Nat) : Ren := { at_ := fun k => if k < n then E.at_ k else none, soft := fun k => if k < n then E.soft k else none, fro := E.fro }

theorem RV.cut {E : Ren} {n : Nat} {v v' : Value} (h : RV E v v') : Below n v → RV (E.cut n) v v' := by
  induction h with
  | bool b => intro _; exact .bool b
  | int k n => intro _; exact .int k n
  | float k b => intro _; exact .float k b
  | complex k a b => intro _; exact .complex k a b
  | string s => intro _; exact .string s
  | nilPtr => intro _; exact .nilPtr
  | ptr h => intro b; cases b with | ptr hb => exact .ptr (by simp only [Ren.cut]; rw [if_pos hb]; exact h)
  | nilSlice l c => intro _; exact .nilSlice l c
  | slice h hs => intro b; cases b with | slice _ _ hb => exact .slice (by simp only [Ren.cut]; rw [if_pos hb]; exact h) (by simp only [Ren.cut]; rw [if_pos hb]; exact hs)
  | softSlice h hs ho hc hle => intro b; cases b with | slice _ _ hb => exact .softSlice (by simp only [Ren.cut]; rw [if_pos hb]; exact h) (by simp only [Ren.cut]; rw [if_pos hb]; exact hs) ho hc hle
  | stub hs => intro b; cases b with | slice _ _ hb => exact .stub (by simp only [Ren.cut]; rw [if_pos hb]; exact hs)
  | nilMap => intro _; exact .nilMap
  | map h => intro b; cases b with | map hb => exact .map (by simp only [Ren.cut]; rw [if_pos hb]; exact h)
  | nilChan => intro _; exact .nilChan
  | yld h => intro b; cases b with | yld hb => exact .yld (by simp only [Ren.cut]; rw [if_pos hb]; exact h)
  | func fn hf hc _ _ i1 i2 => intro b; cases b with | func _ b1 b2 => exact .func fn hf hc (fun i v v' h1 h2 => i1 i v v' h1 h2 (b1 v (mem_at h1))) (fun i v v' h1 h2 => i2 i v v' h1 h2 (b2 v (mem_at h1)))
  | meth fn hf hc _ _ i1 i2 => intro b; cases b with | meth _ b1 b2 => exact .meth fn hf hc (fun i v v' h1 h2 => i1 i v v' h1 h2 (b1 v (mem_at h1))) (fun i v v' h1 h2 => i2 i v v' h1 h2 (b2 v (mem_at h1)))
  | vs hf hs hl hn hc h ih =>
    intro b
    generalize hx : VSl _ = x at b
    cases b with
    | vs hb => cases hx; exact .vs hf hs hl hn hc fun i v v' h1 h2 => ih i v v' h1 h2 (hb v (by simpa using List.mem_of_getElem? h1))
    | _ => cases hx
  | vs0 => intro _; exact .vs0
  | fp hf hn h ih =>
    intro b
    generalize hx : FPv _ = x at b
    cases b with
    | fp hb => cases hx; exact .fp hf hn fun i v v' h1 h2 => ih i v v' h1 h2 (hb v (mem_at h1))
    | _ => cases hx
  | nilFunc => intro _; exact .nilFunc
  | iface t _ ih => intro b; cases b with | iface _ hb => exact .iface t (ih hb)
  | nilIface => intro _; exact .nilIface
  | agg hn _ ih => intro b; cases b with | agg hb => exact .agg hn fun i v v' h1 h2 => ih i v v' h1 h2 (hb v (mem_at h1))
  | tuple hn _ ih => intro b; cases b with | tuple hb => exact .tuple hn fun i v v' h1 h2 => ih i v v' h1 h2 (hb v (mem_at h1))

/-- no block at or above n is named in the object -/
def BelowO (n : Nat) : Obj → Prop
  | .cells c _ _ => ∀ v ∈ c.toList, Below n v
  | .map es _ => ∀ e ∈ es.toList, Below n e.key ∧ Below n e.val
  | .mapIter (some m) _ _ _ => m < n
  | .loop r => ∀ v ∈ r.tmps.toList, v = unk ∨ Below n v
  | _ => True

theorem RO.isBelow {E : Ren} {n : Nat} (hE : ∀ k m, E.at_ k = some m → k < n) (hS : ∀ k, (E.soft k).isSome = true → k < n) {s : Option (Nat × Nat)} {o o' : Obj} (h : RO E s o o') : BelowO n o := by
  have key : ∀ {c c' : Array Value}, c.size ≤ c'.size → (∀ (i : Nat) v v', c[i]? = some v → c'[i]? = some v' → RV E v v') → ∀ v ∈ c.toList, Below n v := by
    intro c c' hs hh v hv
    obtain ⟨i, hi⟩ := List.mem_iff_getElem?.1 hv
    rw [Array.getElem?_toList] at hi
    have hlt := (Array.getElem?_eq_some_iff.1 hi).1
    exact (hh i v _ hi (Array.getElem?_eq_getElem (Nat.lt_of_lt_of_le hlt hs))).isBelow hE hS
  cases h with
  | hard hs h => exact key (Nat.le_of_eq h.1) h.2
  | soft hs hz hn hle hf h => exact key hle h
  | ice hle h => exact key hle h
  | map t hn h =>
    intro e he
    obtain ⟨i, hi⟩ := List.mem_iff_getElem?.1 he
    rw [Array.getElem?_toList] at hi
    have hlt := (Array.getElem?_eq_some_iff.1 hi).1
    have := h i e _ hi (Array.getElem?_eq_getElem (hn ▸ hlt))
    exact ⟨this.1.isBelow hE hS, this.2.1.isBelow hE hS⟩
  | stringIter b p => trivial
  | mapIter h a l b => exact hE _ _ h
  | mapIter0 a l b => trivial
  | loop h1 h2 h3 h4 h5 hn h =>
    rename_i r r'
    intro v hv
    obtain ⟨i, hi⟩ := List.mem_iff_getElem?.1 hv
    rw [Array.getElem?_toList] at hi
    have hlt := (Array.getElem?_eq_some_iff.1 hi).1
    exact (h i v _ hi (Array.getElem?_eq_getElem (hn ▸ hlt))).imp id fun h => h.isBelow hE hS

theorem RO.cut {E : Ren} {n : Nat} {s : Option (Nat × Nat)} {o o' : Obj} (h : RO E s o o') (hb : BelowO n o) : RO (E.cut n) s o o' := by
  cases h with
  | hard hs h => exact .hard hs ⟨h.1, fun i v v' h1 h2 => (h.2 i v v' h1 h2).cut (hb v (mem_at h1))⟩
  | soft hs hz hn hle hf h => exact .soft hs hz hn hle hf fun i v v' h1 h2 => (h i v v' h1 h2).cut (hb v (mem_at h1))
  | ice hle h => exact .ice hle fun i v v' h1 h2 => (h i v v' h1 h2).cut (hb v (mem_at h1))
  | map t hn h =>
    refine .map t hn fun i x y h1 h2 => ?_
    obtain ⟨a, b, c⟩ := h i x y h1 h2
    obtain ⟨p, q⟩ := hb x (List.mem_of_getElem? (by simpa using h1))
    exact ⟨a.cut p, b.cut q, c⟩
  | stringIter b p => exact .stringIter b p
  | mapIter h a l b => exact .mapIter (by simp only [Ren.cut]; rw [if_pos (show _ < n from hb)]; exact h) a l b
  | mapIter0 a l b => exact .mapIter0 a l b
  | loop h1 h2 h3 h4 h5 hn h =>
    refine .loop h1 h2 h3 h4 h5 hn fun i v v' a b => ?_
    rcases h i v v' a b with e | e
    · exact .inl e
    · rcases hb v (mem_at a) with e' | e'
      · exact .inl e'
      · exact .inr (e.cut e')

/-- after a run, what it made and nothing names is given up -/
theorem RW.cut {P : Program} {E₀ E : Ren} {h₀ h₁ h₂ : AH} {w₀ w : World} (r₀ : RW P E₀ h₀ w₀) (r : RW P E h₁ w) (x : Ext E₀ w₀ E w) (hs : h₂.size = h₀.size)
    (hg : ∀ k y, h₂.get k = some y → k < h₀.size ∧ h₁.get k = some y ∧ (BelowO h₀.size y.1 ∨ h₀.get k = some y)) : RW P (E.cut h₀.size) h₂ w ∧ Ext E₀ w₀ (E.cut h₀.size) w := by
  have hE : ∀ k m, E₀.at_ k = some m → k < h₀.size := fun k m h => (r₀.dom k m h).1
  have hS : ∀ k, (E₀.soft k).isSome = true → k < h₀.size := fun k h => by
    obtain ⟨y, hy⟩ := Option.isSome_iff_exists.1 h
    obtain ⟨m, hm⟩ := r₀.sdom k y hy
    exact hE k m hm
  have ca : ∀ k m, (E.cut h₀.size).at_ k = some m → k < h₀.size ∧ E.at_ k = some m := fun k m hk => by
    simp only [Ren.cut] at hk
    split at hk
    · exact ⟨by assumption, hk⟩
    · cases hk
  have cs : ∀ k, k < h₀.size → (E.cut h₀.size).soft k = E.soft k := fun k hk => by simp only [Ren.cut]; rw [if_pos hk]
  have ct : ∀ k, k < h₀.size → (E.cut h₀.size).at_ k = E.at_ k := fun k hk => by simp only [Ren.cut]; rw [if_pos hk]
  refine ⟨⟨fun g hgg => ?_, fun k n hk => ?_, fun k y hk => ?_, fun k o s hk => ?_, fun j k n hj hk gj gk => ?_, r.frz, fun k o s n hk hn hf => ?_, ⟨fun g hg => ?_, fun k n hk hn => ?_⟩⟩, ⟨⟨fun k n hk => ?_, fun k n hk => ?_, fun k y hk => ?_, x.le.fro⟩, fun k n hk => x.range k n (ca k n hk).2, x.size, x.frame, x.os, x.output, x.tape, x.drawn, x.ice⟩⟩
  · rw [ct g (hE g g (r₀.glob g hgg))]; exact r.glob g hgg
  · obtain ⟨a, b⟩ := ca k n hk
    exact ⟨by omega, (r.dom k n b).2⟩
  · simp only [Ren.cut] at hk
    split at hk
    · rename_i e
      obtain ⟨n, hn⟩ := r.sdom k y hk
      exact ⟨n, by rw [ct k e]; exact hn⟩
    · cases hk
  · obtain ⟨a, b, c⟩ := hg k _ hk
    obtain ⟨n, o', g1, g2, g3, g4⟩ := r.live k o s b
    have hb : BelowO h₀.size o := by
      rcases c with c | c
      · exact c
      · obtain ⟨m, o2, f1, f2, f3, f4⟩ := r₀.live k o s c
        exact f3.isBelow hE hS
    exact ⟨n, o', by rw [ct k a]; exact g1, g2, by rw [cs k a]; exact g3.cut hb, by rw [cs k a]; exact g4⟩
  · obtain ⟨y, hy⟩ := Option.isSome_iff_exists.1 gj
    obtain ⟨z, hz⟩ := Option.isSome_iff_exists.1 gk
    exact r.inj j k n (ca j n hj).2 (ca k n hk).2 (by rw [(hg j y hy).2.1]; rfl) (by rw [(hg k z hz).2.1]; rfl)
  · exact r.icy k o s n (hg k _ hk).2.1 (ca k n hn).2 hf
  · rw [cs g (hE g g (r₀.glob g hg))]; exact r.sep.1 g hg
  · exact r.sep.2 k n (ca k n hk).2 hn
  · rw [ct k (hE k n hk)]; exact x.le.at_ k n hk
  · rw [cs k (hE k n hk)]; exact x.le.soft k n hk
  · rw [cs k (hS k (by rw [hk]; rfl))]; exact x.le.soft' k y hk

/-- the same, to be reckoned with -/
def belowN (n : Nat) : Nat → Value → Bool
  | 0, _ => false
  | d + 1, v => match v with
    | .pointer (some a) | .slice (some a) _ _ => decide (a.block < n)
    | .map (some r) => decide (r < n)
    | .chan (some k) => decide (k < n)
    | .agg c | .tuple c => c.toList.all (belowN n d)
    | .func (.func _) f c => f.toList.all (belowN n d) && c.toList.all (belowN n d)
    | .func (.yield 0) z l => z.isEmpty && (flatC l.toList).all (belowN n d)
    | .func (.yield 1) z l => z.isEmpty && l.toList.all (belowN n d)
    | .func _ _ _ => false
    | .iface _ v => belowN n d v
    | _ => true

theorem belowN_ok {n : Nat} : ∀ {d : Nat} {v : Value}, belowN n d v = true → Below n v := by
  intro d
  induction d with
  | zero => intro v h; cases h
  | succ d ih =>
    intro v h
    cases v with
    | bool b => exact .bool b
    | int k n => exact .int k n
    | float k b => exact .float k b
    | complex k a b => exact .complex k a b
    | string s => exact .string s
    | pointer a => cases a with
      | none => exact .nilPtr
      | some a => exact .ptr (by simpa [belowN] using h)
    | slice a l c => cases a with
      | none => exact .nilSlice l c
      | some a => exact .slice l c (by simpa [belowN] using h)
    | map r => cases r with
      | none => exact .nilMap
      | some a => exact .map (by simpa [belowN] using h)
    | chan r => cases r with
      | none => exact .nilChan
      | some a => exact .yld (by simpa [belowN] using h)
    | func fn f c =>
      cases fn with
      | func fn =>
        simp only [belowN, Bool.and_eq_true, List.all_eq_true] at h
        exact .func fn (fun v hv => ih (h.1 v hv)) (fun v hv => ih (h.2 v hv))
      | yield i =>
        match i with
        | 0 =>
          simp only [belowN, Bool.and_eq_true, List.all_eq_true, Array.isEmpty_iff] at h
          obtain ⟨rfl, h⟩ := h
          exact .vs fun v hv => ih (h v hv)
        | 1 =>
          simp only [belowN, Bool.and_eq_true, List.all_eq_true, Array.isEmpty_iff] at h
          obtain ⟨rfl, h⟩ := h
          exact .fp fun v hv => ih (h v hv)
        | _ + 2 => cases h
      | _ => cases h
    | nilFunc => exact .nilFunc
    | iface t v => exact .iface t (ih h)
    | nilIface => exact .nilIface
    | agg c => simp only [belowN, List.all_eq_true] at h; exact .agg fun v hv => ih (h v hv)
    | tuple c => simp only [belowN, List.all_eq_true] at h; exact .tuple fun v hv => ih (h v hv)

def belowOB (n : Nat) : Obj → Bool
  | .cells c _ _ => c.toList.all (belowN n 40)
  | .map es _ => es.toList.all fun e => belowN n 40 e.key && belowN n 40 e.val
  | .mapIter (some m) _ _ _ => decide (m < n)
  | .loop _ => false
  | _ => true

theorem belowOB_ok {n : Nat} {o : Obj} (h : belowOB n o = true) : BelowO n o := by
  cases o with
  | cells c e fz =>
    simp only [belowOB, List.all_eq_true] at h
    exact fun v hv => belowN_ok (h v hv)
  | map es t =>
    simp only [belowOB, List.all_eq_true, Bool.and_eq_true] at h
    exact fun e he => ⟨belowN_ok (h e he).1, belowN_ok (h e he).2⟩
  | mapIter m a l b =>
    cases m with
    | none => trivial
    | some m => exact of_decide_eq_true (p := m < n) h
  | loop r => cases h
  | _ => trivial

/-- what was put is in the log -/
structure Logs (h h' : AH) : Prop where
  size : h.size ≤ h'.size
  log : ∃ l, h'.log = l ++ h.log ∧ ∀ k, k < h.size → k ∉ l → h'.get k = h.get k

theorem Logs.refl (h : AH) : Logs h h := ⟨Nat.le_refl _, [], rfl, fun _ _ _ => rfl⟩
theorem Logs.trans {h g f : AH} (a : Logs h g) (b : Logs g f) : Logs h f := by
  obtain ⟨a1, l, a2, a3⟩ := a
  obtain ⟨b1, m, b2, b3⟩ := b
  refine ⟨Nat.le_trans a1 b1, m ++ l, by rw [b2, a2, List.append_assoc], fun k hk hm => ?_⟩
  simp only [List.mem_append, not_or] at hm
  rw [b3 k (by omega) hm.1, a3 k hk hm.2]
theorem Logs.put (h : AH) (k : Nat) (v : Option (Obj × Option Nat)) : Logs h (h.put k v) := by
  refine ⟨Nat.le_refl _, [k], rfl, fun j hj hm => ?_⟩
  rw [AH.get_put, if_neg (by simpa using hm)]
theorem Logs.push (h : AH) (o : Obj) (s : Option Nat) : Logs h (h.push o s) := by
  refine ⟨Nat.le_succ _, [], rfl, fun j hj hm => ?_⟩
  rw [AH.get_push, if_neg (by omega)]

def Out.heap : Out → AH
  | .val _ h | .unit h | .enter _ _ h => h

section
variable {P : Program} {ρ : Operand → Option Value} {h h' : AH}

theorem logs_setCells {a : Addr} {vs : Array Value} (hh : opSetCells h a vs = some h') : Logs h h' := by
  unfold opSetCells at hh
  repeat' split at hh
  all_goals first | cases hh; done | (cases hh; exact .put _ _ _)

theorem logs_append {ats : Array TypeId} {s x v : Value} (hh : opAppend P h ats s x = some (v, h')) : Logs h h' := by
  unfold opAppend at hh
  repeat' split at hh
  all_goals first
    | (cases hh; done)
    | (cases hh; exact .refl _)
    | (cases hh; exact .push _ _ _)
    | (cases hh; exact .trans (.put _ _ _) (.push _ _ _))
    | (rename_i hs; cases hh; exact logs_setCells hs)

theorem logs_copy {ats : Array TypeId} {s x v : Value} (hh : opCopy P h ats s x = some (v, h')) : Logs h h' := by
  unfold opCopy at hh
  repeat' split at hh
  all_goals first
    | (cases hh; done)
    | (cases hh; exact .refl _)
    | (rename_i hs; cases hh; exact logs_setCells hs)

theorem logs_mapUpdate {t : TypeId} {m k x : Value} (hh : opMapUpdate P h t m k x = some h') : Logs h h' := by
  unfold opMapUpdate at hh
  repeat' split at hh
  all_goals first
    | (cases hh; done)
    | (cases hh; exact .refl _)
    | (cases hh; exact .put _ _ _)

theorem logs_delete {t : TypeId} {m k : Value} (hh : opDelete P h t m k = some h') : Logs h h' := by
  unfold opDelete at hh
  repeat' split at hh
  all_goals first
    | (cases hh; done)
    | (cases hh; exact .refl _)
    | (cases hh; exact .put _ _ _)

theorem logs_clear {t : TypeId} {m : Value} (hh : opClear P h t m = some h') : Logs h h' := by
  unfold opClear at hh
  repeat' split at hh
  all_goals first
    | (cases hh; done)
    | (cases hh; exact .refl _)
    | (cases hh; exact .put _ _ _)
    | exact logs_setCells hh

theorem logs_mapEntry {t : TypeId} {m k v : Value} (hh : opMapEntry P h t m k = some (v, h')) : Logs h h' := by
  unfold opMapEntry at hh
  repeat' split at hh
  all_goals first
    | (cases hh; done)
    | (cases hh; exact .put _ _ _)

theorem logs_entryStore {m k v : Value} (hh : opEntryStore h m k v = some h') : Logs h h' := by
  unfold opEntryStore at hh
  repeat' split at hh
  all_goals first
    | (cases hh; done)
    | (cases hh; exact .put _ _ _)

theorem logs_range {t : TypeId} {m v : Value} (hh : opRange P h t m = some (v, h')) : Logs h h' := by
  unfold opRange at hh
  simp only at hh
  repeat' split at hh
  all_goals first
    | (cases hh; done)
    | (cases hh; exact .push _ _ _)

theorem logs_next {m v : Value} {s : Bool} (hh : opNext P h m s = some (v, h')) : Logs h h' := by
  unfold opNext at hh
  repeat' split at hh
  all_goals first
    | (cases hh; done)
    | (cases hh; exact .refl _)
    | (cases hh; exact .put _ _ _)

theorem logs_valH {v : Option Value} {o : Out} (hh : valH h v = some o) : Logs h o.heap := by
  obtain ⟨u, _, rfl⟩ := valH_eq hh
  exact .refl _

theorem logs_clone {x v : Value} (hh : opClone h x = some (v, h')) : Logs h h' := by
  unfold opClone at hh
  repeat' split at hh
  all_goals first
    | (cases hh; done)
    | (cases hh; exact .push _ _ _)
theorem logs_ext {n : String} {args : List Value} {v : Value} (hh : extO n args h = some (v, h')) : Logs h h' := by
  unfold extO at hh
  repeat' split at hh
  all_goals first
    | (cases hh; done)
    | exact logs_clone hh
    | (cases hh; exact .refl _)
theorem logs_ustring {t : TypeId} {x y v : Value} (hh : opUString P h t x y = some (v, h')) : Logs h h' := by
  unfold opUString at hh
  repeat' split at hh
  all_goals first
    | (cases hh; done)
    | (cases hh; exact .refl _)
    | (cases hh; exact .put _ _ _)

theorem logs_enter {f : FuncId} {args : List Value} {o : Out} (hh : enterOf P f args h = some o) : Logs h o.heap := by
  unfold enterOf at hh
  repeat' split at hh
  all_goals first
    | (obtain ⟨u, h', h1, rfl⟩ := valP_eq hh; exact logs_ext h1)
    | (cases hh; done)
    | (cases hh; exact .refl _)

theorem logs_call {c : Call} {ty : TypeId} {o : Out} (hh : absCall P ρ c ty h = some o) : Logs h o.heap := by
  unfold absCall at hh
  repeat' split at hh
  all_goals first
    | (cases hh; done)
    | exact logs_valH hh
    | exact logs_enter hh
    | (rename_i hs; cases hh; exact logs_delete hs)
    | (rename_i hs; cases hh; exact logs_clear hs)
    | (obtain ⟨u, h', h1, rfl⟩ := valP_eq hh; first | exact logs_append h1 | exact logs_copy h1 | exact logs_ustring h1)

theorem logs_bin {op : BinOp} {t : TypeId} {x y : Operand} {a b : Value} {o : Out} (hh : absBin P op t x y a b h = some o) : Logs h o.heap := by
  unfold absBin at hh
  repeat' split at hh
  all_goals first
    | (cases hh; done)
    | exact logs_valH hh
    | (cases hh; exact .refl _)

theorem logs_convert {s d : TypeId} {x : Value} {o : Out} (hh : absConvert P s d x h = some o) : Logs h o.heap := by
  unfold absConvert at hh
  repeat' split at hh
  all_goals first
    | (cases hh; done)
    | exact logs_valH hh
    | (rename_i hs; cases hs; cases hh; exact .push _ _ _)

theorem logs_store {t : TypeId} {a v : Value} (hh : opStore P h t a v = some h') : Logs h h' := by
  unfold opStore at hh
  repeat' split at hh
  all_goals first
    | (cases hh; done)
    | exact logs_setCells hh

theorem logs_alloc {e : TypeId} {v : Value} (hh : opAlloc P h e = some (v, h')) : Logs h h' := by
  unfold opAlloc at hh
  repeat' split at hh
  all_goals first
    | (cases hh; done)
    | (cases hh; exact .push _ _ _)

theorem logs_buildSlice {t : TypeId} {n : Nat} {l : List (Nat × Value)} {v : Value} (hh : opBuildSlice P h t n l = some (v, h')) : Logs h h' := by
  unfold opBuildSlice at hh
  repeat' split at hh
  all_goals first
    | (cases hh; done)
    | (cases hh; exact .push _ _ _)

theorem logs_makeSlice {t : TypeId} {a b v : Value} (hh : opMakeSlice P h t a b = some (v, h')) : Logs h h' := by
  unfold opMakeSlice at hh
  repeat' split at hh
  all_goals first
    | (cases hh; done)
    | (cases hh; exact .push _ _ _)

theorem absOp_logs {op : Oper} {o : Out} (hh : absOp P ρ op h = some o) : Logs h o.heap := by
  unfold absOp at hh
  repeat' split at hh
  all_goals first
    | (cases hh; done)
    | exact logs_valH hh
    | exact logs_call hh
    | exact logs_bin hh
    | exact logs_convert hh
    | (cases hh; exact .refl _)
    | (rename_i hs; cases hs; cases hh; exact .push _ _ _)
    | (rename_i hs; cases hh; exact logs_mapUpdate hs)
    | (rename_i hs; cases hh; exact logs_store hs)
    | (rename_i hs; cases hh; exact logs_entryStore hs)
    | (obtain ⟨u, h', h1, rfl⟩ := valP_eq hh; first | exact logs_alloc h1 | exact logs_buildSlice h1 | exact logs_makeSlice h1 | exact logs_mapEntry h1 | exact logs_range h1 | exact logs_next h1)

end

/-- what was made since and nothing names any more is given up: was the heap changed, and the heap -/
def tidy (h₀ h₁ : AH) (v : Value) : Bool × AH :=
  let ks := h₁.log.filter fun k => decide (k < h₀.size)
  if belowN h₀.size 40 v then
    if ks.isEmpty then (false, h₀)
    else if ks.all fun k => match h₁.get k with | some (o, _) => belowOB h₀.size o | none => true then (true, ks.eraseDups.foldr (fun k h => h.put k (h₁.get k)) h₀)
    else (true, { h₁ with log := ks ++ h₀.log })
  else (true, { h₁ with log := ks ++ h₀.log })

theorem tidy_logs {h₀ h₁ : AH} {v : Value} (hl : Logs { h₀ with log := [] } h₁) : Logs h₀ (tidy h₀ h₁ v).2 ∧ ((tidy h₀ h₁ v).1 = false → (tidy h₀ h₁ v).2 = h₀) := by
  have key : Logs h₀ { h₁ with log := h₁.log.filter (fun k => decide (k < h₀.size)) ++ h₀.log } := by
    obtain ⟨a, l, b, c⟩ := hl
    refine ⟨a, _, rfl, fun k hk hm => ?_⟩
    have : k ∉ l := fun hc => hm (by rw [List.mem_filter]; exact ⟨by rw [b]; simpa using hc, by simpa using hk⟩)
    exact c k hk this
  have fold : ∀ ks : List Nat, Logs h₀ (ks.foldr (fun k h => h.put k (h₁.get k)) h₀) := by
    intro ks
    induction ks with
    | nil => exact .refl _
    | cons k ks ih => exact ih.trans (.put _ _ _)
  unfold tidy
  simp only
  split
  · split
    · exact ⟨.refl _, fun _ => rfl⟩
    · split
      · exact ⟨fold _, fun e => by cases e⟩
      · exact ⟨key, fun e => by cases e⟩
  · exact ⟨key, fun e => by cases e⟩

theorem mem_dups : ∀ {l : List Nat} {k : Nat}, k ∈ l → k ∈ l.eraseDups := by
  intro l k h; simpa using h

theorem fold_get {h₀ h₁ : AH} : ∀ (ks : List Nat) (k : Nat), (ks.foldr (fun k h => h.put k (h₁.get k)) h₀).get k = if k ∈ ks then h₁.get k else h₀.get k := by
  intro ks
  induction ks with
  | nil => intro k; simp
  | cons j ks ih =>
    intro k
    rw [List.foldr_cons, AH.get_put, ih]
    by_cases e : k = j
    · subst e; simp
    · rw [if_neg e]; simp [e]

theorem fold_size {h₀ h₁ : AH} : ∀ (ks : List Nat), (ks.foldr (fun k h => h.put k (h₁.get k)) h₀).size = h₀.size := by
  intro ks
  induction ks with
  | nil => rfl
  | cons j ks ih => rw [List.foldr_cons, AH.size_put, ih]

theorem tidy_ok {P : Program} {E₀ E : Ren} {h₀ h₁ : AH} {w₀ w : World} {v v' : Value} (r₀ : RW P E₀ h₀ w₀) (r : RW P E h₁ w) (x : Ext E₀ w₀ E w) (hv : RV E v v') (hl : Logs { h₀ with log := [] } h₁) :
    ∃ E', RW P E' (tidy h₀ h₁ v).2 w ∧ Ext E₀ w₀ E' w ∧ RV E' v v' := by
  have key : RW P E { h₁ with log := h₁.log.filter (fun k => decide (k < h₀.size)) ++ h₀.log } w := r.less (Nat.le_refl _) fun k y hk => hk
  obtain ⟨a, l, b, c⟩ := hl
  have hlog : h₁.log = l := by rw [b]; simp
  have keep : ∀ k, k < h₀.size → k ∉ h₁.log → h₁.get k = h₀.get k := fun k hk hm => c k hk (by rw [← hlog]; exact hm)
  have old : ∀ k y, h₀.get k = some y → k < h₀.size := by
    intro k y hk
    obtain ⟨n, o', g1, _⟩ := r₀.live k y.1 y.2 hk
    exact (r₀.dom k n g1).1
  unfold tidy
  simp only
  split
  · rename_i hb
    have hbv := belowN_ok hb
    split
    · rename_i he
      have he' : ∀ k, k < h₀.size → k ∉ h₁.log := by
        intro k hk hm
        have : k ∈ h₁.log.filter fun k => decide (k < h₀.size) := List.mem_filter.2 ⟨hm, by simpa using hk⟩
        rw [List.isEmpty_iff.1 he] at this; cases this
      obtain ⟨g1, g2⟩ := r₀.cut r x (h₂ := h₀) rfl fun k y hk => ⟨old k y hk, by rw [keep k (old k y hk) (he' k (old k y hk))]; exact hk, .inr hk⟩
      exact ⟨_, g1, g2, hv.cut hbv⟩
    · split
      · rename_i hall
        obtain ⟨g1, g2⟩ := r₀.cut r x (h₂ := (h₁.log.filter fun k => decide (k < h₀.size)).eraseDups.foldr (fun k h => h.put k (h₁.get k)) h₀) (fold_size _) fun k y hk => by
          rw [fold_get] at hk
          split at hk
          · rename_i hm
            have hm' : k ∈ h₁.log.filter fun k => decide (k < h₀.size) := by simpa using hm
            have hlt : k < h₀.size := by simpa using (List.mem_filter.1 hm').2
            have := List.all_eq_true.1 hall k hm'
            rw [hk] at this
            exact ⟨hlt, hk, .inl (belowOB_ok this)⟩
          · rename_i hm
            have hlt := old k y hk
            refine ⟨hlt, ?_, .inr hk⟩
            rw [keep k hlt fun hc => hm (mem_dups (List.mem_filter.2 ⟨hc, by simpa using hlt⟩))]; exact hk
        exact ⟨_, g1, g2, hv.cut hbv⟩
      · exact ⟨E, key, x, hv⟩
  · exact ⟨E, key, x, hv⟩

end Go.Ab

/- AbDraw -/
namespace Go.Ab
set_option linter.unusedVariables false
set_option linter.unusedSimpArgs false
open Region

/-- what has run (latest first) and what ran ahead of it -/
def Good (m : Region.Mode) (ops : Array Oper) : List Nat → Prop
  | [] => True
  | i :: acc => Good m ops acc ∧ i ∉ acc ∧ ∃ o, ops[i]? = some o ∧ ∀ e ∈ o.after, binds m e = true → e.on ∈ acc

theorem Good.drop {m : Region.Mode} {ops : Array Oper} : ∀ {l k : List Nat}, Good m ops (l ++ k) → Good m ops k := by
  intro l
  induction l with
  | nil => intro k h; exact h
  | cons i l ih => intro k h; exact ih h.1

theorem Good.nodup {m : Region.Mode} {ops : Array Oper} : ∀ {l : List Nat}, Good m ops l → l.Nodup := by
  intro l
  induction l with
  | nil => intro _; exact List.nodup_nil
  | cons i l ih => intro h; exact List.nodup_cons.2 ⟨h.2.1, ih h.1⟩

theorem Good.lt {m : Region.Mode} {ops : Array Oper} : ∀ {l : List Nat}, Good m ops l → ∀ i ∈ l, i < ops.size := by
  intro l
  induction l with
  | nil => intro _ i hi; cases hi
  | cons j l ih =>
    intro h i hi
    cases hi with
    | head => obtain ⟨o, ho, _⟩ := h.2.2; exact (Array.getElem?_eq_some_iff.1 ho).1
    | tail _ hi => exact ih h.1 i hi

/-- edges that bind in whatever order -/
def strong (e : Edge) : Bool := match e.ground with
  | .textOnly _ | .gcOnly _ => false
  | _ => true

theorem strong_binds {e : Edge} (h : strong e = true) (m : Region.Mode) : binds m e = true := by
  unfold strong at h
  unfold binds
  cases hg : e.ground <;> simp_all

/-- an order in which each operation comes behind those that it waits for -/
def okOrd (m : Region.Mode) (ops : Array Oper) : List Nat → List Nat → Bool
  | seen, [] => (List.range ops.size).all fun i => seen.contains i
  | seen, i :: r => (match ops[i]? with
    | some o => o.after.toList.all fun e => !binds m e || seen.contains e.on
    | none => false) && okOrd m ops (i :: seen) r

/-- edges lead backwards, but for those of the compiler's order, and that is an order, too -/
def backs (ops : Array Oper) : Bool := ((List.range ops.size).all fun i => match ops[i]? with
  | some o => o.after.toList.all fun e => (match e.ground with | .gcOnly _ => true | _ => false) || decide (e.on < i)
  | none => true) && okOrd .gc ops [] (linearise .gc ops 0)

theorem backs_lt' {ops : Array Oper} (h : backs ops = true) {i : Nat} {o : Oper} (ho : ops[i]? = some o) : ∀ e ∈ o.after, (match e.ground with | .gcOnly _ => true | _ => false) = false → e.on < i := by
  intro e he hs
  have hi : i < ops.size := (Array.getElem?_eq_some_iff.1 ho).1
  unfold backs at h
  rw [Bool.and_eq_true] at h
  have h1 := List.all_eq_true.1 h.1 i (List.mem_range.2 hi)
  simp only [ho] at h1
  have h2 := List.all_eq_true.1 h1 e (by simpa using he)
  rw [hs, Bool.false_or] at h2
  exact of_decide_eq_true h2

theorem backs_lt {ops : Array Oper} (h : backs ops = true) {i : Nat} {o : Oper} (ho : ops[i]? = some o) : ∀ e ∈ o.after, strong e = true → e.on < i := by
  intro e he hs
  refine backs_lt' h ho e he ?_
  unfold strong at hs
  cases hg : e.ground <;> simp_all

/-- as long as not all have run, one is ready -/
def Ready (m : Region.Mode) (ops : Array Oper) : Prop := ∀ acc : List Nat, (∃ i, i < ops.size ∧ i ∉ acc) → ∃ i o, i < ops.size ∧ i ∉ acc ∧ ops[i]? = some o ∧ ∀ e ∈ o.after, binds m e = true → e.on ∈ acc ∧ e.on < ops.size

theorem ready_least {m : Region.Mode} {ops : Array Oper} (hb : backs ops = true) (hm : m ≠ .gc) : Ready m ops := by
  intro acc hex
  have key : ∀ k, (∃ i, i < ops.size ∧ i ∉ acc ∧ i ≤ k) → ∃ i, i < ops.size ∧ i ∉ acc ∧ ∀ j, j < i → j ∈ acc := by
    intro k
    induction k with
    | zero => rintro ⟨i, h1, h2, h3⟩; exact ⟨i, h1, h2, fun j hj => by omega⟩
    | succ k ihk =>
      rintro ⟨i, h1, h2, h3⟩
      by_cases hh : ∃ i, i < ops.size ∧ i ∉ acc ∧ i ≤ k
      · exact ihk hh
      · refine ⟨i, h1, h2, fun j hj => Classical.byContradiction fun hc => hh ⟨j, by omega, hc, by omega⟩⟩
  obtain ⟨i₀, a1, a2⟩ := hex
  obtain ⟨i, h1, h2, h3⟩ := key i₀ ⟨i₀, a1, a2, Nat.le_refl _⟩
  refine ⟨i, ops[i], h1, h2, Array.getElem?_eq_getElem h1, fun e he hbe => ?_⟩
  have hlt := backs_lt' hb (Array.getElem?_eq_getElem h1) e he (by
    unfold binds at hbe
    cases hg : e.ground with
    | gcOnly d => rw [hg] at hbe; simp only [beq_iff_eq] at hbe; exact absurd hbe hm
    | _ => rfl)
  exact ⟨h3 _ hlt, by omega⟩

theorem okOrd_ready {m : Region.Mode} {ops : Array Oper} : ∀ (r seen : List Nat), okOrd m ops seen r = true → ∀ acc : List Nat, (∀ i ∈ seen, i ∈ acc) → (∀ i ∈ seen, i < ops.size) → (∃ i, i < ops.size ∧ i ∉ acc) →
    ∃ i o, i < ops.size ∧ i ∉ acc ∧ ops[i]? = some o ∧ ∀ e ∈ o.after, binds m e = true → e.on ∈ acc ∧ e.on < ops.size := by
  intro r
  induction r with
  | nil =>
    intro seen h acc hs _ ⟨i, h1, h2⟩
    have := List.all_eq_true.1 h i (List.mem_range.2 h1)
    exact absurd (hs i (by simpa using this)) h2
  | cons i r ih =>
    intro seen h acc hs hl hex
    simp only [okOrd, Bool.and_eq_true] at h
    cases ho : ops[i]? with
    | none => rw [ho] at h; cases h.1
    | some o =>
      rw [ho] at h
      have hi : i < ops.size := (Array.getElem?_eq_some_iff.1 ho).1
      by_cases hm : i ∈ acc
      · refine ih (i :: seen) h.2 acc (fun j hj => ?_) (fun j hj => ?_) hex
        · rcases List.mem_cons.1 hj with rfl | hj
          · exact hm
          · exact hs j hj
        · rcases List.mem_cons.1 hj with rfl | hj
          · exact hi
          · exact hl j hj
      · refine ⟨i, o, hi, hm, ho, fun e he hbe => ?_⟩
        have h1 := List.all_eq_true.1 h.1 e (by simpa using he)
        rw [hbe, Bool.not_true, Bool.false_or] at h1
        have h2 : e.on ∈ seen := by simpa using h1
        exact ⟨hs _ h2, hl _ h2⟩

theorem backs_ready {ops : Array Oper} (hb : backs ops = true) (m : Region.Mode) : Ready m ops := by
  cases m with
  | gc =>
    unfold backs at hb
    rw [Bool.and_eq_true] at hb
    exact fun acc hex => okOrd_ready _ [] hb.2 acc (fun i h => by cases h) (fun i h => by cases h) hex
  | text => exact ready_least hb (by decide)
  | any => exact ready_least hb (by decide)

theorem go_good {m : Region.Mode} {ops : Array Oper} (hb : Ready m ops) : ∀ (fuel t : Nat) (listed : Array Bool) (acc : List Nat), listed.size = ops.size →
    (∀ i, i < ops.size → (listed[i]? = some true ↔ i ∈ acc)) → Good m ops acc → acc.length + fuel = ops.size →
    ∃ l, linearise.go m ops fuel t listed acc = l.reverse ∧ Good m ops l ∧ l.length = ops.size := by
  intro fuel
  induction fuel with
  | zero => intro t listed acc hs hl hg hf; exact ⟨acc, rfl, hg, by omega⟩
  | succ fuel ih =>
    intro t listed acc hs hl hg hf
    simp only [linearise.go]
    generalize hrs : (List.range ops.size).filter (fun i => !listed.getD i true && ((ops[i]?).map (·.after.all fun e => !binds m e || listed.getD e.on false)).getD false) = rs
    have hlist : ∀ i, i < ops.size → listed.getD i true = decide (i ∈ acc) ∧ listed.getD i false = decide (i ∈ acc) := by
      intro i hi
      have h1 := hl i hi
      have hlt : i < listed.size := by omega
      rw [Array.getElem?_eq_getElem hlt] at h1
      rw [Array.getD_eq_getD_getElem?, Array.getD_eq_getD_getElem?, Array.getElem?_eq_getElem hlt]
      simp only [Option.getD_some, Option.some.injEq] at h1 ⊢
      cases hv : listed[i] with
      | true => rw [hv] at h1; simp [h1.1 rfl]
      | false =>
        rw [hv] at h1
        have : i ∉ acc := fun hm => by cases h1.2 hm
        simp [this]
    have hne : rs ≠ [] := by
      -- the least that has not run is ready
      have hex : ∃ i, i < ops.size ∧ i ∉ acc := by
        apply Classical.byContradiction
        intro hno
        have hall : ∀ i ∈ List.range ops.size, i ∈ acc := fun i hi => Classical.byContradiction fun hc => hno ⟨i, List.mem_range.1 hi, hc⟩
        have := (List.nodup_range (n := ops.size)).length_le_of_subset hall
        rw [List.length_range] at this
        omega
      obtain ⟨i, o, h1, h2, ho, h3⟩ := hb acc hex
      have : i ∈ rs := by
        rw [← hrs, List.mem_filter]
        refine ⟨List.mem_range.2 h1, ?_⟩
        rw [(hlist i h1).1, ho]
        simp only [h2, decide_false, Bool.not_false, Bool.true_and, Option.map_some, Option.getD_some, Array.all_eq_true']
        intro e he
        cases hbe : binds m e with
        | false => rfl
        | true =>
          obtain ⟨h4, h5⟩ := h3 e he hbe
          rw [(hlist e.on h5).2]
          simp [h4]
      intro he
      rw [he] at this
      cases this
    have hlen : 0 < rs.length := List.length_pos_iff.2 hne
    have hget : rs[t % rs.length]? = some (rs[t % rs.length]'(Nat.mod_lt _ hlen)) := List.getElem?_eq_getElem _
    rw [hget]
    simp only
    generalize hi : rs[t % rs.length]'(Nat.mod_lt _ hlen) = i
    have him : i ∈ rs := by rw [← hi]; exact List.getElem_mem _
    rw [← hrs, List.mem_filter, List.mem_range] at him
    obtain ⟨h1, h2⟩ := him
    have ho : ops[i]? = some ops[i] := Array.getElem?_eq_getElem h1
    rw [(hlist i h1).1, ho] at h2
    simp only [Option.map_some, Option.getD_some, Bool.and_eq_true, Bool.not_eq_true', decide_eq_false_iff_not, Array.all_eq_true'] at h2
    refine ih _ _ _ (by simp [hs]) ?_ ⟨hg, h2.1, _, ho, fun e he hbe => ?_⟩ (by simp; omega)
    · intro j hj
      rw [Array.getElem?_setIfInBounds]
      by_cases e : i = j
      · subst e
        rw [if_pos rfl, if_pos (by omega)]
        simp
      · rw [if_neg e, hl j hj]
        constructor
        · exact fun h => List.mem_cons_of_mem _ h
        · intro h
          cases h with
          | head => exact absurd rfl e
          | tail _ h => exact h
    · have h3 := h2.2 e he
      rw [hbe] at h3
      have hlt : e.on < ops.size := by
        apply Classical.byContradiction
        intro hge
        rw [Array.getD_eq_getD_getElem?, Array.getElem?_eq_none (by omega)] at h3
        cases h3
      rw [(hlist e.on hlt).2] at h3
      simpa using h3

theorem linearise_good {m : Region.Mode} {ops : Array Oper} (hb : backs ops = true) (t : Nat) : ∃ l, linearise m ops t = l.reverse ∧ Good m ops l ∧ l.length = ops.size := by
  refine go_good (backs_ready hb m) _ _ _ _ (by simp) (fun i hi => ?_) trivial (by simp)
  rw [Array.getElem?_replicate, if_pos hi]
  simp

theorem schedule_good {mixed : Bool} {ops : Array Oper} (hb : backs ops = true) (t : Nat) : ∃ m l, schedule mixed ops t = l.reverse ∧ Good m ops l ∧ l.length = ops.size := by
  unfold schedule
  split
  · obtain ⟨l, h⟩ := linearise_good (m := .any) hb t; exact ⟨_, l, h⟩
  · obtain ⟨l, h⟩ := linearise_good (m := if t % 2 == 0 then .text else .gc) hb (t / 2); exact ⟨_, l, h⟩

end Go.Ab

/- AbDraw2 -/
namespace Go.Ab
set_option linter.unusedVariables false
set_option linter.unusedSimpArgs false

section
variable {P : Program} {ρ σ : Operand → Option Value}

theorem listOf_congr : ∀ {l : List Operand}, (∀ x ∈ l, ρ x = σ x) → listOf ρ l = listOf σ l := by
  intro l
  induction l with
  | nil => intro _; rfl
  | cons x l ih => intro h; simp only [listOf, h x (by simp), ih (fun y hy => h y (by simp [hy]))]

theorem partsOf_congr : ∀ {l : List (Nat × Operand)}, (∀ x ∈ l, ρ x.2 = σ x.2) → partsOf ρ l = partsOf σ l := by
  intro l
  induction l with
  | nil => intro _; rfl
  | cons x l ih =>
    intro h
    obtain ⟨i, x⟩ := x
    simp only [partsOf, h (i, x) (by simp), ih (fun y hy => h y (by simp [hy]))]

theorem optOf_congr {x : Option Operand} (h : ∀ y, x = some y → ρ y = σ y) : optOf ρ x = optOf σ x := by
  cases x with
  | none => rfl
  | some y => simp only [optOf, h y rfl]

theorem absCall_congr {c : Call} {ty : TypeId} {h : AH} (hx : ∀ x ∈ c.operands.toList, ρ x = σ x) : absCall P ρ c ty h = absCall P σ c ty h := by
  have h1 : listOf ρ c.args.toList = listOf σ c.args.toList := listOf_congr fun x hm => hx x (by simp only [Call.operands, Array.toList_append]; exact List.mem_append_right _ hm)
  unfold absCall
  rw [h1]
  cases hc : c.callee with
  | builtin b => cases b <;> rfl
  | value f => simp only [hx f (by simp [Call.operands, hc])]
  | invoke f m => simp only [hx f (by simp [Call.operands, hc])]

theorem absOp_congr {o : Oper} {h : AH} (hx : ∀ x ∈ o.op.operands.toList, ρ x = σ x) : absOp P ρ o h = absOp P σ o h := by
  unfold absOp
  cases ho : o.op with
  | move x => simp only [ho, Op.operands] at hx; simp only [hx x (by simp)]
  | assign x => simp only [ho, Op.operands] at hx; simp only [hx x (by simp)]
  | pick c a b => simp only [ho, Op.operands] at hx; simp only [hx c (by simp), hx a (by simp), hx b (by simp)]
  | box e x => simp only [ho, Op.operands] at hx; simp only [hx x (by simp)]
  | build t l =>
    simp only [ho, Op.operands] at hx
    simp only [partsOf_congr (l := l.toList) (fun x hm => hx x.2 (by simpa using ⟨x.1, by simpa using hm⟩))]
  | buildSlice t n l =>
    simp only [ho, Op.operands] at hx
    simp only [partsOf_congr (l := l.toList) (fun x hm => hx x.2 (by simpa using ⟨x.1, by simpa using hm⟩))]
  | load t x => simp only [ho, Op.operands] at hx; simp only [hx x (by simp)]
  | store t x y => simp only [ho, Op.operands] at hx; simp only [hx x (by simp), hx y (by simp)]
  | nilCheck x => simp only [ho, Op.operands] at hx; simp only [hx x (by simp)]
  | binOp op t x y yt => simp only [ho, Op.operands] at hx; simp only [hx x (by simp), hx y (by simp)]
  | unOp op t x => simp only [ho, Op.operands] at hx; simp only [hx x (by simp)]
  | convert s d x => simp only [ho, Op.operands] at hx; simp only [hx x (by simp)]
  | makeInterface t x => simp only [ho, Op.operands] at hx; simp only [hx x (by simp)]
  | makeFunc fn l m =>
    simp only [ho, Op.operands] at hx
    have h1 : listOf ρ l.toList = listOf σ l.toList := listOf_congr fun x hm => hx x (by rw [Array.toList_append]; exact List.mem_append_left _ hm)
    have h2 : listOf ρ m.toList = listOf σ m.toList := listOf_congr fun x hm => hx x (by rw [Array.toList_append]; exact List.mem_append_right _ hm)
    cases fn <;> simp only [h1, h2]
  | makeSlice t x y => simp only [ho, Op.operands] at hx; simp only [hx x (by simp), hx y (by simp)]
  | slice t x l g m =>
    simp only [ho, Op.operands] at hx
    have h1 : optOf ρ l = optOf σ l := optOf_congr fun y e => hx y (by simp [e])
    have h2 : optOf ρ g = optOf σ g := optOf_congr fun y e => hx y (by simp [e])
    cases m with
    | none => simp only [hx x (by simp), h1, h2]
    | some m => simp only [hx x (by simp), hx m (by simp), h1, h2]
  | fieldAddr t x f => simp only [ho, Op.operands] at hx; simp only [hx x (by simp)]
  | field t x f => simp only [ho, Op.operands] at hx; simp only [hx x (by simp)]
  | indexAddr t x y => simp only [ho, Op.operands] at hx; simp only [hx x (by simp), hx y (by simp)]
  | index t x y => simp only [ho, Op.operands] at hx; simp only [hx x (by simp), hx y (by simp)]
  | typeAssert x a b c => simp only [ho, Op.operands] at hx; simp only [hx x (by simp)]
  | extract x i => simp only [ho, Op.operands] at hx; simp only [hx x (by simp)]
  | call c => simp only [ho, Op.operands] at hx; exact absCall_congr hx
  | lookup t x k ok => simp only [ho, Op.operands] at hx; simp only [hx x (by simp), hx k (by simp)]
  | mapUpdate t m k x => simp only [ho, Op.operands] at hx; simp only [hx m (by simp), hx k (by simp), hx x (by simp)]
  | insert t m k x => simp only [ho, Op.operands] at hx; simp only [hx m (by simp), hx k (by simp), hx x (by simp)]
  | mapEntry t m k => simp only [ho, Op.operands] at hx; simp only [hx m (by simp), hx k (by simp)]
  | entryStore t m k x => simp only [ho, Op.operands] at hx; simp only [hx m (by simp), hx k (by simp), hx x (by simp)]
  | range t x => simp only [ho, Op.operands] at hx; simp only [hx x (by simp)]
  | next it s => simp only [ho, Op.operands] at hx; simp only [hx it (by simp)]
  | entry it => simp only [ho, Op.operands] at hx; simp only [hx it (by simp)]
  | makeMap t r => cases r <;> rfl
  | _ => rfl

/-- may it change the heap? -/
def loud (P : Program) (o : Oper) : Bool :=
  match o.op with
  | .move _ | .assign _ | .pick .. | .build .. | .load .. | .nilCheck _ | .binOp .. | .unOp .. | .makeInterface .. | .makeFunc .. | .slice .. | .fieldAddr .. | .field .. | .indexAddr .. | .index ..
  | .typeAssert .. | .extract .. | .lookup .. | .entry .. => false
  | .convert s d _ => match P.underlying d with
    | some (.slice _) => true
    | _ => false
  | .call { callee := .builtin .len, .. } | .call { callee := .builtin .min, .. } | .call { callee := .builtin .max, .. } | .call { callee := .builtin .real, .. } | .call { callee := .builtin .imag, .. } | .call { callee := .builtin .complex, .. } => false
  | _ => true

theorem valH_quiet {h : AH} {v : Option Value} {out : Out} (hh : valH h v = some out) : ∃ u, out = .val u h := by
  obtain ⟨u, _, rfl⟩ := valH_eq hh
  exact ⟨u, rfl⟩

theorem absBin_quiet {op : BinOp} {t : TypeId} {x y : Operand} {a b : Value} {h : AH} {out : Out} (hh : absBin P op t x y a b h = some out) : ∃ v, out = .val v h := by
  unfold absBin at hh
  repeat' split at hh
  all_goals first
    | exact valH_quiet hh
    | (cases hh; done)
    | (cases hh; exact ⟨_, rfl⟩)

theorem quiet_val {o : Oper} {h : AH} {out : Out} (hq : loud P o = false) (hh : absOp P ρ o h = some out) : ∃ v, out = .val v h := by
  unfold loud at hq
  unfold absOp at hh
  cases ho : o.op with
  | binOp op t x y yt =>
    simp only [ho] at hh
    split at hh
    · exact absBin_quiet hh
    · cases hh
  | convert s d x =>
    simp only [ho] at hh hq
    split at hh
    · unfold absConvert at hh
      split at hh
      · rename_i h1 h2; rw [h1] at hq; cases hq
      · split at hh
        · exact valH_quiet hh
        · cases hh
      · split at hh
        · exact valH_quiet hh
        · cases hh
      · split at hh
        · exact valH_quiet hh
        · exact valH_quiet hh
    · cases hh
  | call c =>
    simp only [ho] at hh hq
    unfold absCall at hh
    obtain ⟨callee, args, ats⟩ := c
    cases callee with
    | value f => cases hq
    | invoke f m => cases hq
    | builtin b =>
      cases b
      case len =>
        simp only at hh
        repeat' split at hh
        all_goals first
          | exact valH_quiet hh
          | (cases hh; done)
      case min =>
        simp only at hh
        repeat' split at hh
        all_goals first
          | exact valH_quiet hh
          | (cases hh; done)
      case max =>
        simp only at hh
        repeat' split at hh
        all_goals first
          | exact valH_quiet hh
          | (cases hh; done)
      case real =>
        simp only at hh
        repeat' split at hh
        all_goals first
          | exact valH_quiet hh
          | (cases hh; done)
      case imag =>
        simp only at hh
        repeat' split at hh
        all_goals first
          | exact valH_quiet hh
          | (cases hh; done)
      case complex =>
        simp only at hh
        repeat' split at hh
        all_goals first
          | exact valH_quiet hh
          | (cases hh; done)
      all_goals (cases hq)
  | move x =>
    simp only [ho] at hh
    exact valH_quiet hh
  | assign x =>
    simp only [ho] at hh
    exact valH_quiet hh
  | pick c a b =>
    simp only [ho] at hh
    repeat' split at hh
    all_goals first
      | exact valH_quiet hh
      | (cases hh; done)
      | (cases hh; exact ⟨_, rfl⟩)
  | build t l =>
    simp only [ho] at hh
    repeat' split at hh
    all_goals first
      | exact valH_quiet hh
      | (cases hh; done)
      | (cases hh; exact ⟨_, rfl⟩)
  | load t x =>
    simp only [ho] at hh
    repeat' split at hh
    all_goals first
      | exact valH_quiet hh
      | (cases hh; done)
      | (cases hh; exact ⟨_, rfl⟩)
  | nilCheck x =>
    simp only [ho] at hh
    repeat' split at hh
    all_goals first
      | exact valH_quiet hh
      | (cases hh; done)
      | (cases hh; exact ⟨_, rfl⟩)
  | unOp op t x =>
    simp only [ho] at hh
    repeat' split at hh
    all_goals first
      | exact valH_quiet hh
      | (cases hh; done)
      | (cases hh; exact ⟨_, rfl⟩)
  | makeInterface t x =>
    simp only [ho] at hh
    repeat' split at hh
    all_goals first
      | exact valH_quiet hh
      | (cases hh; done)
      | (cases hh; exact ⟨_, rfl⟩)
  | slice t x l g m =>
    cases m with
    | some m =>
      simp only [ho] at hh
      repeat' split at hh
      all_goals first
        | exact valH_quiet hh
        | (cases hh; done)
        | (cases hh; exact ⟨_, rfl⟩)
    | none =>
      simp only [ho] at hh
      repeat' split at hh
      all_goals first
        | exact valH_quiet hh
        | (cases hh; done)
        | (cases hh; exact ⟨_, rfl⟩)
  | fieldAddr t x f =>
    simp only [ho] at hh
    repeat' split at hh
    all_goals first
      | exact valH_quiet hh
      | (cases hh; done)
      | (cases hh; exact ⟨_, rfl⟩)
  | field t x f =>
    simp only [ho] at hh
    repeat' split at hh
    all_goals first
      | exact valH_quiet hh
      | (cases hh; done)
      | (cases hh; exact ⟨_, rfl⟩)
  | indexAddr t x y =>
    simp only [ho] at hh
    repeat' split at hh
    all_goals first
      | exact valH_quiet hh
      | (cases hh; done)
      | (cases hh; exact ⟨_, rfl⟩)
  | index t x y =>
    simp only [ho] at hh
    repeat' split at hh
    all_goals first
      | exact valH_quiet hh
      | (cases hh; done)
      | (cases hh; exact ⟨_, rfl⟩)
  | typeAssert x a b c =>
    simp only [ho] at hh
    repeat' split at hh
    all_goals first
      | exact valH_quiet hh
      | (cases hh; done)
      | (cases hh; exact ⟨_, rfl⟩)
  | lookup t x k ok =>
    simp only [ho] at hh
    split at hh
    · exact valH_quiet hh
    · cases hh
  | entry it =>
    simp only [ho] at hh
    split at hh
    · exact valH_quiet hh
    · cases hh
  | extract x i =>
    simp only [ho] at hh
    repeat' split at hh
    all_goals first
      | exact valH_quiet hh
      | (cases hh; done)
      | (cases hh; exact ⟨_, rfl⟩)
  | makeFunc fn l m =>
    simp only [ho] at hh
    cases fn
    case func f =>
      simp only at hh
      split at hh
      · cases hh; exact ⟨_, rfl⟩
      · cases hh
    case method f =>
      simp only at hh
      split at hh
      · cases hh; exact ⟨_, rfl⟩
      · cases hh
    all_goals (cases hh)
  | _ => simp [ho] at hq

end

end Go.Ab

/- AbDraw3 -/
namespace Go.Ab
set_option linter.unusedVariables false
set_option linter.unusedSimpArgs false

/-- one operation of the run in the order of the text: the temporaries and the heap ahead of it, what it yields, whether it may have changed the heap, the heap behind it -/
structure Rec where
  o : Oper
  a : AA
  h : AH
  v : Value
  q : Bool
  h' : AH

def stepAt (P : Program) (call : CallF) (ops : Array Oper) (o : Oper) (a : AA) (h : AH) : Option (Value × Bool × AH) :=
  if a.knows ops o then
  if Region.wanted o (a.yielded ops) then
    match (if varArg ops o then frozOf P (a.opnd P) o else none) with
    | some v => some (v, false, h)
    | none => match absOp P (a.opnd P) o h with
      | some (.val v h') => some (v, loud P o, h')
      | some (.unit h') => some (undef, true, h')
      | some (.enter f args h') => call f args h'
      | none => none
  else some (undef, false, h)
  else none

def trace (P : Program) (call : CallF) (ops : Array Oper) : List Oper → AA → AH → Option (List Rec × AA × AH)
  | [], a, h => some ([], a, h)
  | o :: l, a, h => match stepAt P call ops o a h with
    | some (v, q, h') => match trace P call ops l (a.put o.dst v) h' with
      | some (rs, a₂, h₂) => some (⟨o, a, h, v, q, h'⟩ :: rs, a₂, h₂)
      | none => none
    | none => none

/-- the greatest below n -/
def lastB (p : Nat → Bool) : Nat → Option Nat
  | 0 => none
  | n + 1 => if p n then some n else lastB p n

theorem lastB_none {p : Nat → Bool} : ∀ {n : Nat}, lastB p n = none → ∀ k, k < n → p k = false := by
  intro n
  induction n with
  | zero => intro _ k hk; omega
  | succ n ih =>
    intro h k hk
    simp only [lastB] at h
    split at h
    · cases h
    · rename_i hp
      by_cases e : k = n
      · subst e; simpa using hp
      · exact ih h k (by omega)

theorem lastB_some {p : Nat → Bool} : ∀ {n l : Nat}, lastB p n = some l → l < n ∧ p l = true ∧ ∀ k, k < n → p k = true → k ≤ l := by
  intro n
  induction n with
  | zero => intro l h; cases h
  | succ n ih =>
    intro l h
    simp only [lastB] at h
    split at h
    · rename_i hp; cases h; exact ⟨by omega, hp, fun k hk _ => by omega⟩
    · rename_i hp
      obtain ⟨h1, h2, h3⟩ := ih h
      refine ⟨by omega, h2, fun k hk hpk => ?_⟩
      by_cases e : k = n
      · subst e; exact absurd hpk hp
      · exact h3 k (by omega) hpk

theorem lastB_congr {p q : Nat → Bool} : ∀ {n : Nat}, (∀ k, k < n → p k = q k) → lastB p n = lastB q n := by
  intro n
  induction n with
  | zero => intro _; rfl
  | succ n ih =>
    intro h
    simp only [lastB]
    rw [h n (by omega), ih fun k hk => h k (by omega)]

/-- nothing at and above i -/
theorem lastB_cut {p : Nat → Bool} {i : Nat} : ∀ {n : Nat}, i ≤ n → (∀ k, i ≤ k → k < n → p k = false) → lastB p n = lastB p i := by
  intro n
  induction n with
  | zero => intro h _; rw [Nat.le_zero.1 h]
  | succ n ih =>
    intro h hp
    by_cases e : i = n + 1
    · rw [e]
    · simp only [lastB]
      rw [hp n (by omega) (by omega)]
      exact ih (by omega) fun k h1 h2 => hp k h1 (by omega)

theorem lastB_at {p : Nat → Bool} {i n : Nat} (h : i < n) (hi : p i = true) (hp : ∀ k, i < k → k < n → p k = false) : lastB p n = some i := by
  rw [lastB_cut (i := i + 1) (by omega) fun k h1 h2 => hp k (by omega) h2]
  simp only [lastB, hi, if_true]

/-- which tmps an operation reads -/
def readsOf (ops : Array Oper) (o : Oper) : List Nat :=
  (o.op.operands.toList.filterMap fun | .tmp t => some t | _ => none) ++ (match o.guard with | some (j, _) => ((ops[j]?).bind (·.dst)).toList | none => [])

/-- two runs that agree on what is read -/
theorem step_congr {P : Program} {call : CallF} {ops : Array Oper} {o : Oper} {a b : AA} (hn : a.n = b.n) (hr : ∀ t ∈ readsOf ops o, a.get t = b.get t) (h : AH) :
    stepAt P call ops o a h = stepAt P call ops o b h := by
  have h0 : ∀ j want, o.guard = some (j, want) → ∀ d, (ops[j]?).bind (·.dst) = some d → a.get d = b.get d := fun j want hg d hd => hr d (by simp [readsOf, hg, hd])
  have h1 : a.knows ops o = b.knows ops o := by
    unfold AA.knows
    cases hg : o.guard with
    | none => rfl
    | some jw =>
      obtain ⟨j, want⟩ := jw
      simp only
      cases hd : (ops[j]?).bind (·.dst) with
      | none => rfl
      | some d => simp only [hn]; rw [h0 j want hg d hd]
  have h2 : Region.wanted o (a.yielded ops) = Region.wanted o (b.yielded ops) := by
    unfold Region.wanted
    cases hg : o.guard with
    | none => rfl
    | some jw =>
      obtain ⟨j, want⟩ := jw
      simp only
      have : a.yielded ops j = b.yielded ops j := by
        unfold AA.yielded
        cases hd : (ops[j]?).bind (·.dst) with
        | none => rfl
        | some d => simp only [hn]; rw [h0 j want hg d hd]
      rw [this]
  have h3 : absOp P (a.opnd P) o h = absOp P (b.opnd P) o h := by
    refine absOp_congr fun x hx => ?_
    cases x with
    | tmp t =>
      have : t ∈ readsOf ops o := List.mem_append_left _ (List.mem_filterMap.2 ⟨.tmp t, hx, rfl⟩)
      simp only [AA.opnd, hr t this]
    | _ => rfl
  have h4 : frozOf P (a.opnd P) o = frozOf P (b.opnd P) o := by
    unfold frozOf
    split
    · rename_i t n parts ho
      have : partsOf (a.opnd P) parts.toList = partsOf (b.opnd P) parts.toList := partsOf_congr fun x hx => by
        obtain ⟨i, y⟩ := x
        cases y with
        | tmp t =>
          have : t ∈ readsOf ops o := List.mem_append_left _ (List.mem_filterMap.2 ⟨.tmp t, by rw [ho]; simp only [Op.operands]; simpa using ⟨i, by simpa using hx⟩, rfl⟩)
          simp only [AA.opnd, hr t this]
        | _ => rfl
      rw [this]
    · rfl
  unfold stepAt
  rw [h1, h2, h3, h4]

theorem enter_same {P : Program} {ρ : Operand → Option Value} {o : Oper} {h h' : AH} {f : FuncId} {args : Array Value} (hh : absOp P ρ o h = some (.enter f args h')) : h' = h := by
  have noVal : ∀ {v : Option Value}, valH h v = some (.enter f args h') → False := fun e => by obtain ⟨u, _, e⟩ := valH_eq e; cases e
  have noValP : ∀ {v : Option (Value × AH)}, valP v = some (.enter f args h') → False := fun e => by obtain ⟨u, g, _, e⟩ := valP_eq e; cases e
  have ent : ∀ {g : FuncId} {l : List Value}, enterOf P g l h = some (.enter f args h') → h' = h := by
    intro g l e
    unfold enterOf at e
    repeat' split at e
    all_goals first
      | (exact (noValP e).elim)
      | (cases e; done)
      | (cases e; rfl)
  unfold absOp at hh
  repeat' split at hh
  all_goals first
    | (cases hh; done)
    | (exact (noVal hh).elim)
    | (exact (noValP hh).elim)
    | skip
  · unfold absBin at hh
    repeat' split at hh
    all_goals first
      | (cases hh; done)
      | (exact (noVal hh).elim)
  · unfold absConvert at hh
    repeat' split at hh
    all_goals first
      | (cases hh; done)
      | (exact (noVal hh).elim)
  · unfold absCall at hh
    repeat' split at hh
    all_goals first
      | (cases hh; done)
      | (exact (noVal hh).elim)
      | (exact (noValP hh).elim)
      | exact ent hh

theorem quiet_step {P : Program} {call : CallF} (hc : CallOk P call) {ops : Array Oper} {o : Oper} {a : AA} {h h' : AH} {v : Value} (hs : stepAt P call ops o a h = some (v, false, h')) : h' = h := by
  unfold stepAt at hs
  split at hs
  case isFalse => cases hs
  split at hs
  · split at hs
    · cases hs; rfl
    split at hs
    · rename_i u g hop
      have e1 : loud P o = false := congrArg (fun x => x.2.1) (Option.some.inj hs)
      obtain ⟨u2, hu⟩ := quiet_val e1 hop
      cases hu
      exact (congrArg (fun x => x.2.2) (Option.some.inj hs)).symm
    · cases hs
    · rename_i f args g hop
      rw [(hc f args g v false h' hs).1 rfl, enter_same hop]
    · cases hs
  · cases hs; rfl

/-- one operation in the world -/
theorem step_wp {P : Program} {ro : Option Nat} {D : List Deferred} {call : CallF} (hc : CallOk P call) {ops : Array Oper} {o : Oper} {a : AA} {h h' : AH} {v : Value} {q : Bool} (hs : stepAt P call ops o a h = some (v, q, h'))
    {E : Ren} {w : World} {y : Act} (r : RW P E h w) (rt : RT E a y.tmps) (hd : y.defers = D) {K : Act → World → Prop} {Q : Exit → Act → World → Prop}
    (hK : ∀ E' w' z, RW P E' h' w' → Ext E w E' w' → RT E' (a.put o.dst v) z.tmps → z.defers = D → K z w') :
    if Region.wanted o (Go.yielded ops y.tmps) then o.wpR ro P y w K Q else K (y.put o.dst undef) w := by
  have hput : ∀ (d : Option Tmp) (v : Value), (y.put d v).defers = D := fun d v => by cases d <;> exact hd
  unfold stepAt at hs
  split at hs
  case isFalse => cases hs
  rename_i hk
  rw [← rt.yielded ops hk]
  split at hs
  · rename_i hw
    rw [if_pos hw]
    split at hs
    · rename_i u hfz
      cases hs
      split at hfz
      case isFalse => cases hfz
      obtain ⟨hnd, E', v', w', h1, h2, h3, h4⟩ := frozOf_ok r (rt.opnd r) hfz
      refine wpR_value hnd h1 ?_
      exact hK E' w' _ h2 h3 ((rt.mono h3.le).put o.dst h4) (hput _ _)
    split at hs
    · rename_i u g hop
      have e1 : u = v := congrArg (fun x => x.1) (Option.some.inj hs)
      have e2 : g = h' := congrArg (fun x => x.2.2) (Option.some.inj hs)
      subst e1 e2
      obtain ⟨E', v', w', h1, h2, h3, h4⟩ := absOp_ok r (rt.opnd r) hop
      refine wpR_value (abs_nodefer hop) h1 ?_
      exact hK E' w' _ h2 h3 ((rt.mono h3.le).put o.dst h4) (hput _ _)
    · rename_i g hop
      cases hs
      obtain ⟨E', w', h1, h2, h3⟩ := absOp_ok r (rt.opnd r) hop
      refine wpR_skip (abs_nodefer hop) h1 ?_
      exact hK E' w' _ h2 h3 ((rt.mono h3.le).put o.dst rv_undef) (hput _ _)
    · rename_i f args g hop
      obtain ⟨E', args', w', h1, h2, h3, h4⟩ := absOp_ok r (rt.opnd r) hop
      refine wpR_enter (abs_nodefer hop) h1 ?_
      refine ((hc f args g v q h' hs).2 E' w' args' h2 h4).mono ?_
      rintro e w'' ⟨E'', v', rfl, q1, q2, q3⟩
      exact hK E'' w'' _ q1 (h3.trans q2) (((rt.mono h3.le).mono q2.le).put o.dst q3) (hput _ _)
    · cases hs
  · rename_i hw
    rw [if_neg hw]
    cases hs
    exact hK E w _ r (.refl E w) (rt.put o.dst rv_undef) (hput _ _)

section
variable {P : Program} {call : CallF} {ops : Array Oper}

/-- what the run in the order of the text is at each operation -/
theorem trace_get : ∀ {l : List Oper} {a : AA} {h : AH} {rs : List Rec} {a₂ : AA} {h₂ : AH}, trace P call ops l a h = some (rs, a₂, h₂) →
    rs.length = l.length ∧ (∀ (i : Nat) r, rs[i]? = some r → l[i]? = some r.o ∧ stepAt P call ops r.o r.a r.h = some (r.v, r.q, r.h')) ∧
    (∀ r, rs[0]? = some r → r.a = a ∧ r.h = h) ∧ (∀ (i : Nat) r q, rs[i]? = some r → rs[i + 1]? = some q → q.a = r.a.put r.o.dst r.v ∧ q.h = r.h') ∧
    (rs = [] → a₂ = a ∧ h₂ = h) ∧ (∀ r, rs[rs.length - 1]? = some r → a₂ = r.a.put r.o.dst r.v ∧ h₂ = r.h') := by
  intro l
  induction l with
  | nil => intro a h rs a₂ h₂ ht; cases ht; simp
  | cons o l ih =>
    intro a h rs a₂ h₂ ht
    simp only [trace] at ht
    split at ht
    · rename_i v q h' hs
      split at ht
      · rename_i rs' a₃ h₃ ht'
        cases ht
        obtain ⟨q1, q2, q3, q4, q5, q6⟩ := ih ht'
        refine ⟨by simp [q1], fun i r hr => ?_, fun r hr => ?_, fun i r q hr hq => ?_, (fun e => by cases e), fun r hr => ?_⟩
        · cases i with
          | zero => simp at hr; subst hr; exact ⟨rfl, hs⟩
          | succ i => simpa using q2 i r (by simpa using hr)
        · simp at hr; subst hr; exact ⟨rfl, rfl⟩
        · cases i with
          | zero =>
            simp at hr hq; subst hr
            obtain ⟨g1, g2⟩ := q3 q (by simpa using hq)
            exact ⟨g1, g2⟩
          | succ i => exact q4 i r q (by simpa using hr) (by simpa using hq)
        · cases hrs : rs' with
          | nil =>
            subst hrs
            simp at hr; subst hr
            exact q5 rfl
          | cons r0 rs0 =>
            refine q6 r ?_
            rw [hrs] at hr ⊢
            simpa using hr
      · cases ht
    · cases ht

end

end Go.Ab

/- AbDraw4 -/
namespace Go.Ab
set_option linter.unusedVariables false
set_option linter.unusedSimpArgs false

def writesAt (rs : List Rec) (n t k : Nat) : Bool := match rs[k]? with | some r => r.o.dst == some t && decide (t < n) | none => false
def loudAt (rs : List Rec) (k : Nat) : Bool := match rs[k]? with | some r => r.q | none => false
def valT (rs : List Rec) (a : AA) (t : Nat) (q : Option Nat) : Option Value := match q with | none => a.get t | some k => match rs[k]? with | some r => some r.v | none => a.get t
def heapT (rs : List Rec) (h : AH) (q : Option Nat) : AH := match q with | none => h | some k => match rs[k]? with | some r => r.h' | none => h

theorem put_n (a : AA) (d : Option Tmp) (v : Value) : (a.put d v).n = a.n := by
  cases d with
  | none => rfl
  | some d => simp only [AA.put]; split <;> rfl

section
variable {P : Program} {call : CallF} {ops : Array Oper} {a a₂ : AA} {h h₂ : AH} {rs : List Rec}

theorem text_get (hc : CallOk P call) (ht : trace P call ops ops.toList a h = some (rs, a₂, h₂)) : ∀ (i : Nat) r, rs[i]? = some r →
    r.a.n = a.n ∧ (∀ t, r.a.get t = valT rs a t (lastB (writesAt rs a.n t) i)) ∧ r.h = heapT rs h (lastB (loudAt rs) i) := by
  obtain ⟨q1, q2, q3, q4, q5, q6⟩ := trace_get ht
  intro i
  induction i with
  | zero =>
    intro r hr
    obtain ⟨e1, e2⟩ := q3 r hr
    rw [e1, e2]
    exact ⟨rfl, fun t => rfl, rfl⟩
  | succ i ih =>
    intro r hr
    have hlt : i < rs.length := by have := (List.getElem?_eq_some_iff.1 hr).1; omega
    have hp : rs[i]? = some rs[i] := List.getElem?_eq_getElem hlt
    obtain ⟨g1, g2, g3⟩ := ih rs[i] hp
    obtain ⟨e1, e2⟩ := q4 i rs[i] r hp hr
    obtain ⟨s1, s2⟩ := q2 i rs[i] hp
    refine ⟨by rw [e1, put_n, g1], fun t => ?_, ?_⟩
    · rw [e1]
      simp only [lastB, writesAt, hp]
      cases hd : rs[i].o.dst with
      | none => simp only [AA.put]; rw [g2]; rfl
      | some d =>
        rw [AA.get_put, g1]
        by_cases hdt : d = t ∧ d < a.n
        · obtain ⟨rfl, hdn⟩ := hdt
          simp [hdn, valT, hp]
        · rw [if_neg hdt, g2]
          have : (some d == some t && decide (t < a.n)) = false := by
            rw [Bool.and_eq_false_iff]
            by_cases e : d = t
            · subst e; right; simpa using fun h => hdt ⟨rfl, h⟩
            · left; simpa using e
          rw [this]
          rfl
    · rw [e2]
      simp only [lastB, loudAt, hp]
      cases hl : rs[i].q with
      | true => simp [heapT, hp]
      | false =>
        rw [hl] at s2
        rw [quiet_step hc s2, g3]
        rfl

theorem text_end (hc : CallOk P call) (ht : trace P call ops ops.toList a h = some (rs, a₂, h₂)) :
    a₂.n = a.n ∧ (∀ t, a₂.get t = valT rs a t (lastB (writesAt rs a.n t) ops.size)) ∧ h₂ = heapT rs h (lastB (loudAt rs) ops.size) := by
  obtain ⟨q1, q2, q3, q4, q5, q6⟩ := trace_get ht
  have q1' : rs.length = ops.size := by rw [q1]; simp
  cases hn : ops.size with
  | zero =>
    have : rs = [] := by apply List.eq_nil_of_length_eq_zero; omega
    obtain ⟨rfl, rfl⟩ := q5 this
    exact ⟨rfl, fun t => rfl, rfl⟩
  | succ i =>
    have hlt : i < rs.length := by omega
    have hp : rs[i]? = some rs[i] := List.getElem?_eq_getElem hlt
    obtain ⟨g1, g2, g3⟩ := text_get hc ht i rs[i] hp
    obtain ⟨e1, e2⟩ := q6 rs[i] (by rw [q1', hn]; exact hp)
    obtain ⟨s1, s2⟩ := q2 i rs[i] hp
    refine ⟨by rw [e1, put_n, g1], fun t => ?_, ?_⟩
    · rw [e1]
      simp only [lastB, writesAt, hp]
      cases hd : rs[i].o.dst with
      | none => simp only [AA.put]; rw [g2]; rfl
      | some d =>
        rw [AA.get_put, g1]
        by_cases hdt : d = t ∧ d < a.n
        · obtain ⟨rfl, hdn⟩ := hdt
          simp [hdn, valT, hp]
        · rw [if_neg hdt, g2]
          have : (some d == some t && decide (t < a.n)) = false := by
            rw [Bool.and_eq_false_iff]
            by_cases e : d = t
            · subst e; right; simpa using fun h => hdt ⟨rfl, h⟩
            · left; simpa using e
          rw [this]
          rfl
    · rw [e2]
      simp only [lastB, loudAt, hp]
      cases hl : rs[i].q with
      | true => simp [heapT, hp]
      | false =>
        rw [hl] at s2
        rw [quiet_step hc s2, g3]
        rfl

/-- that the edges fix what the operations come to; pl: what has run ahead, whatever the order -/
structure Ordered (P : Program) (call : CallF) (ops : Array Oper) (rs : List Rec) (n : Nat) (h : AH) (pl : Nat → List Nat) : Prop where
  ahead : ∀ m i l, Good m ops (i :: l) → ∀ j ∈ pl i, j ∈ l
  tm : ∀ i k x y d, rs[i]? = some x → rs[k]? = some y → i ≠ k → y.o.dst = some d → d < n → (d ∈ readsOf ops x.o ∨ x.o.dst = some d) → (k < i → k ∈ pl i) ∧ (i < k → i ∈ pl k)
  ld : ∀ i k, loudAt rs i = true → loudAt rs k = true → k < i → k ∈ pl i
  rd : ∀ i r, rs[i]? = some r → r.q = false → ∀ q : Option Nat, (∀ l, q = some l → loudAt rs l = true) →
    (∀ p ∈ pl i, loudAt rs p = true → ∃ l, q = some l ∧ p ≤ l) → (∀ l', loudAt rs l' = true → (∃ l, q = some l ∧ l' ≤ l) → i ∉ pl l') →
    stepAt P call ops r.o r.a (heapT rs h q) = some (r.v, false, heapT rs h q)

end

end Go.Ab

/- AbDraw5 -/
namespace Go.Ab
set_option linter.unusedVariables false
set_option linter.unusedSimpArgs false

section
variable {P : Program} {call : CallF} {ops : Array Oper} {a a₂ : AA} {h h₂ : AH} {rs : List Rec}

theorem closed {pl : Nat → List Nat} (ho : Ordered P call ops rs a.n h pl) {m : Region.Mode} {acc : List Nat} (hg : Good m ops acc) {k : Nat} (hk : k ∈ acc) : ∀ j ∈ pl k, j ∈ acc := by
  intro j hj
  obtain ⟨l1, l2, rfl⟩ := List.append_of_mem hk
  have := ho.ahead m k l2 hg.drop j hj
  exact List.mem_append_right _ (List.mem_cons_of_mem _ this)

theorem last_here {pl : Nat → List Nat} (ho : Ordered P call ops rs a.n h pl) {m : Region.Mode} {i : Nat} {acc : List Nat} (hg : Good m ops (i :: acc)) (hi : i < ops.size) {p : Nat → Bool}
    (h1 : ∀ k, k < i → p k = true → k ∈ pl i) (h2 : ∀ k, i < k → p k = true → i ∈ pl k) : lastB (fun k => p k && decide (k ∈ acc)) ops.size = lastB p i := by
  have hup : ∀ k, i ≤ k → k < ops.size → (p k && decide (k ∈ acc)) = false := by
    intro k hk _
    rw [Bool.and_eq_false_iff]
    by_cases e : k = i
    · subst e; right; simpa using hg.2.1
    · cases hp : p k with
      | false => exact .inl rfl
      | true =>
        right
        have := h2 k (by omega) hp
        simp only [decide_eq_false_iff_not]
        exact fun hc => hg.2.1 (closed ho hg.1 hc i this)
  rw [lastB_cut (Nat.le_of_lt hi) hup]
  refine lastB_congr fun k hk => ?_
  cases hp : p k with
  | false => rfl
  | true => simpa using ho.ahead m i acc hg k (h1 k hk hp)

theorem last_put {pl : Nat → List Nat} (ho : Ordered P call ops rs a.n h pl) {m : Region.Mode} {i : Nat} {acc : List Nat} (hg : Good m ops (i :: acc)) (hi : i < ops.size) {p : Nat → Bool} (hp : p i = true)
    (h2 : ∀ k, i < k → p k = true → i ∈ pl k) : lastB (fun k => p k && decide (k ∈ i :: acc)) ops.size = some i := by
  refine lastB_at hi (by simp [hp]) fun k hk _ => ?_
  rw [Bool.and_eq_false_iff]
  cases hpk : p k with
  | false => exact .inl rfl
  | true =>
    right
    have := h2 k hk hpk
    simp only [decide_eq_false_iff_not, List.mem_cons, not_or]
    exact ⟨by omega, fun hc => hg.2.1 (closed ho hg.1 hc i this)⟩

theorem last_skip {i : Nat} {acc : List Nat} {p : Nat → Bool} (hp : p i = false) (n : Nat) : lastB (fun k => p k && decide (k ∈ i :: acc)) n = lastB (fun k => p k && decide (k ∈ acc)) n := by
  refine lastB_congr fun k hk => ?_
  by_cases e : k = i
  · subst e; simp [hp]
  · simp [e]

theorem draw_wp {ro : Option Nat} {D : List Deferred} (hc : CallOk P call) (ht : trace P call ops ops.toList a h = some (rs, a₂, h₂)) {pl : Nat → List Nat} (ho : Ordered P call ops rs a.n h pl) {E : Ren} {w : World} {x : Act}
    {Q : Exit → Act → World → Prop} (r0 : RW P E h w) (rt0 : RT E a x.tmps) (hd0 : x.defers = D)
    (hQ : ∀ E' w' y, RW P E' h₂ w' → Ext E w E' w' → RT E' a₂ y.tmps → y.defers = D → Q .normal y w') {m : Region.Mode} {l : List Nat} (hg : Good m ops l) (hl : l.length = ops.size) :
    wpOpsR ro P ops Q l.reverse x w := by
  obtain ⟨q1, q2, q3, q4, q5, q6⟩ := trace_get ht
  have q1' : rs.length = ops.size := by rw [q1]; simp
  have go : ∀ (rest acc : List Nat), Good m ops (rest.reverse ++ acc) → (rest.reverse ++ acc).length = ops.size → ∀ (E' : Ren) (w' : World) (y : Act) (aS : AA),
      RW P E' (heapT rs h (lastB (fun k => loudAt rs k && decide (k ∈ acc)) ops.size)) w' → Ext E w E' w' → RT E' aS y.tmps → aS.n = a.n →
      (∀ t, aS.get t = valT rs a t (lastB (fun k => writesAt rs a.n t k && decide (k ∈ acc)) ops.size)) → y.defers = D → wpOpsR ro P ops Q rest y w' := by
    intro rest
    induction rest with
    | nil =>
      intro acc hga hla E' w' y aS r xt rt hn hv hd
      simp only [List.reverse_nil, List.nil_append] at hga hla
      have hall : ∀ k, k < ops.size → k ∈ acc := by
        intro k hk
        apply Classical.byContradiction
        intro hc
        have hsub : ∀ j ∈ k :: acc, j ∈ List.range ops.size := by
          intro j hj
          cases hj with
          | head => exact List.mem_range.2 hk
          | tail _ hj => exact List.mem_range.2 (hga.lt j hj)
        have := (List.nodup_cons.2 ⟨hc, hga.nodup⟩).length_le_of_subset hsub
        rw [List.length_range, List.length_cons] at this
        omega
      obtain ⟨e1, e2, e3⟩ := text_end hc ht
      have hcg : ∀ p : Nat → Bool, lastB (fun k => p k && decide (k ∈ acc)) ops.size = lastB p ops.size := fun p => lastB_congr fun k hk => by simp [hall k hk]
      simp only [wpOpsR]
      refine hQ E' w' y ?_ xt (rt.less (by rw [e1, hn]) fun t v hvt => ?_) hd
      · rw [e3, ← hcg]; exact r
      · rw [hv t, hcg, ← e2 t]; exact hvt
    | cons i rest ih =>
      intro acc hga hla E' w' y aS r xt rt hn hv hd
      have hga' : Good m ops (rest.reverse ++ (i :: acc)) := by simpa using hga
      have hla' : (rest.reverse ++ (i :: acc)).length = ops.size := by simpa using hla
      have hgi : Good m ops (i :: acc) := hga'.drop
      obtain ⟨o, hoi, _⟩ := hgi.2.2
      have hi : i < ops.size := (Array.getElem?_eq_some_iff.1 hoi).1
      have hri : rs[i]? = some (rs[i]'(by omega)) := List.getElem?_eq_getElem (by omega)
      generalize hr : rs[i]'(by omega) = ri at hri
      obtain ⟨s1, s2⟩ := q2 i ri hri
      have hro : ri.o = o := by
        have : some o = some ri.o := by rw [← hoi, ← s1]; simp
        exact (Option.some.inj this).symm
      obtain ⟨g1, g2, g3⟩ := text_get hc ht i ri hri
      -- what is read is what is read in the order of the text
      have hreads : ∀ t ∈ readsOf ops ri.o, aS.get t = ri.a.get t := by
        intro t ht'
        rw [hv t, g2 t]
        congr 1
        refine last_here ho hgi hi (fun k hk hp => ?_) (fun k hk hp => ?_)
        · unfold writesAt at hp
          split at hp
          · rename_i yk hyk
            simp only [Bool.and_eq_true, beq_iff_eq, decide_eq_true_eq] at hp
            exact (ho.tm i k ri yk t hri hyk (by omega) hp.1 hp.2 (.inl ht')).1 hk
          · cases hp
        · unfold writesAt at hp
          split at hp
          · rename_i yk hyk
            simp only [Bool.and_eq_true, beq_iff_eq, decide_eq_true_eq] at hp
            exact (ho.tm i k ri yk t hri hyk (by omega) hp.1 hp.2 (.inl ht')).2 hk
          · cases hp
      have hcongr := fun hh => step_congr (P := P) (call := call) (ops := ops) (o := ri.o) (hn.trans g1.symm) hreads hh
      have hli : loudAt rs i = ri.q := by simp [loudAt, hri]
      have hwi : ∀ t, writesAt rs a.n t i = (ri.o.dst == some t && decide (t < a.n)) := fun t => by simp [writesAt, hri]
      have hloudHere : ri.q = true → heapT rs h (lastB (fun k => loudAt rs k && decide (k ∈ acc)) ops.size) = ri.h := by
        intro hl
        rw [g3, last_here ho hgi hi (fun k hk hp => ho.ld i k (by rw [hli]; exact hl) hp hk) (fun k hk hp => ho.ld k i hp (by rw [hli]; exact hl) hk)]
      have hloudPut : ri.q = true → heapT rs h (lastB (fun k => loudAt rs k && decide (k ∈ i :: acc)) ops.size) = ri.h' := by
        intro hl
        rw [last_put ho hgi hi (by rw [hli]; exact hl) (fun k hk hp => ho.ld k i hp (by rw [hli]; exact hl) hk)]
        simp [heapT, hri]
      have hquietPut : ri.q = false → heapT rs h (lastB (fun k => loudAt rs k && decide (k ∈ i :: acc)) ops.size) = heapT rs h (lastB (fun k => loudAt rs k && decide (k ∈ acc)) ops.size) := by
        intro hl
        rw [last_skip (by rw [hli]; exact hl)]
      have hvals : ∀ t, (aS.put ri.o.dst ri.v).get t = valT rs a t (lastB (fun k => writesAt rs a.n t k && decide (k ∈ i :: acc)) ops.size) := by
        intro t
        by_cases hw : writesAt rs a.n t i = true
        · have hw' := hw
          rw [hwi] at hw'
          simp only [Bool.and_eq_true, beq_iff_eq, decide_eq_true_eq] at hw'
          rw [last_put ho hgi hi hw (fun k hk hp => by
            unfold writesAt at hp
            split at hp
            · rename_i yk hyk
              simp only [Bool.and_eq_true, beq_iff_eq, decide_eq_true_eq] at hp
              exact (ho.tm i k ri yk t hri hyk (by omega) hp.1 hp.2 (.inr hw'.1)).2 hk
            · cases hp)]
          rw [hw'.1, AA.get_put, hn, if_pos ⟨rfl, hw'.2⟩]
          simp [valT, hri]
        · rw [last_skip (by simpa using hw), ← hv t]
          rw [hwi] at hw
          cases hdst : ri.o.dst with
          | none => rfl
          | some d =>
            rw [AA.get_put, hn, if_neg]
            rintro ⟨rfl, hlt⟩
            exact hw (by simp [hdst, hlt])
      have hnn : ∀ v, (aS.put ri.o.dst v).n = a.n := fun v => by rw [put_n, hn]
      simp only [wpOpsR, hoi]
      rw [← hro]
      cases hl : ri.q with
      | true =>
        have hst : stepAt P call ops ri.o aS (heapT rs h (lastB (fun k => loudAt rs k && decide (k ∈ acc)) ops.size)) = some (ri.v, true, ri.h') := by
          rw [hloudHere hl, hcongr, s2, hl]
        exact step_wp hc hst r rt hd fun E2 w2 z p1 p2 p3 p4 => ih (i :: acc) hga' hla' E2 w2 z _ (by rw [hloudPut hl]; exact p1) (xt.trans p2) p3 (hnn _) hvals p4
      | false =>
        have hrd := ho.rd i ri hri hl (lastB (fun k => loudAt rs k && decide (k ∈ acc)) ops.size)
          (fun l hl' => by have := (lastB_some hl').2.1; simp only [Bool.and_eq_true] at this; exact this.1)
          (fun p hp hlp => by
            have hpa := ho.ahead m i acc hgi p hp
            have hps := hgi.1.lt p hpa
            cases hlast : lastB (fun k => loudAt rs k && decide (k ∈ acc)) ops.size with
            | none =>
              have := lastB_none hlast p hps
              simp [hlp, hpa] at this
            | some l => exact ⟨l, rfl, (lastB_some hlast).2.2 p hps (by simp [hlp, hpa])⟩)
          (by
            rintro l' hl' ⟨l, hlast, hle⟩ hmem
            obtain ⟨z1, z2, z3⟩ := lastB_some hlast
            simp only [Bool.and_eq_true, decide_eq_true_eq] at z2
            have hla : l' ∈ acc := by
              by_cases e : l' = l
              · rw [e]; exact z2.2
              · exact closed ho hgi.1 z2.2 l' (ho.ld l l' z2.1 hl' (by omega))
            exact hgi.2.1 (closed ho hgi.1 hla i hmem))
        rw [← hcongr] at hrd
        exact step_wp hc hrd r rt hd fun E2 w2 z p1 p2 p3 p4 => ih (i :: acc) hga' hla' E2 w2 z _ (by rw [hquietPut hl]; exact p1) (xt.trans p2) p3 (hnn _) hvals p4
  have hnone : ∀ p : Nat → Bool, lastB (fun k => p k && decide (k ∈ ([] : List Nat))) ops.size = none := by
    intro p
    have : ∀ n, lastB (fun k => p k && decide (k ∈ ([] : List Nat))) n = none := by
      intro n
      induction n with
      | zero => rfl
      | succ n ih => simp only [lastB, List.not_mem_nil, decide_false, Bool.and_false, Bool.false_eq_true, if_false]; simpa using ih
    exact this _
  refine go l.reverse [] (by simpa using hg) (by simpa using hl) E w x a (by rw [hnone]; exact r0) (.refl E w) rt0 rfl (fun t => by rw [hnone]; rfl) hd0

end

end Go.Ab

/- AbDraw6 -/
namespace Go.Ab
set_option linter.unusedVariables false
set_option linter.unusedSimpArgs false

def veq : Nat → Value → Value → Bool
  | 0, _, _ => false
  | n + 1, x, y => match x, y with
    | .bool a, .bool b => a == b
    | .int k a, .int j b => k == j && a == b
    | .float k a, .float j b => k == j && a == b
    | .complex k a c, .complex j b d => k == j && a == b && c == d
    | .string a, .string b => decide (a = b)
    | .pointer a, .pointer b => a == b
    | .slice a l c, .slice b k d => a == b && l == k && c == d
    | .map a, .map b => a == b
    | .chan a, .chan b => a == b
    | .func f a c, .func g b d => f == g && vall n a.toList b.toList && vall n c.toList d.toList
    | .nilFunc, .nilFunc => true
    | .iface t a, .iface u b => t == u && veq n a b
    | .nilIface, .nilIface => true
    | .agg a, .agg b => vall n a.toList b.toList
    | .tuple a, .tuple b => vall n a.toList b.toList
    | _, _ => false
  where
  vall (n : Nat) : List Value → List Value → Bool
    | [], [] => true
    | x :: l, y :: k => veq n x y && vall n l k
    | _, _ => false

theorem veq_eq : ∀ (n : Nat) (x y : Value), veq n x y = true → x = y := by
  intro n
  induction n with
  | zero => intro x y h; simp [veq] at h
  | succ n ih =>
    have hl : ∀ l k : List Value, veq.vall n l k = true → l = k := by
      intro l
      induction l with
      | nil => intro k h; cases k with
        | nil => rfl
        | cons => simp [veq.vall] at h
      | cons x l ihl => intro k h; cases k with
        | nil => simp [veq.vall] at h
        | cons y k =>
          simp only [veq.vall, Bool.and_eq_true] at h
          rw [ih x y h.1, ihl k h.2]
    have ha : ∀ a b : Array Value, veq.vall n a.toList b.toList = true → a = b := fun a b h => Array.ext' (hl _ _ h)
    intro x y h
    unfold veq at h
    split at h
    all_goals first
      | (simp only [Bool.and_eq_true, beq_iff_eq, decide_eq_true_eq] at h; simp_all; done)
      | skip
    all_goals first
      | rfl
      | (simp only [Bool.and_eq_true, beq_iff_eq] at h; rw [h.1.1, ha _ _ h.1.2, ha _ _ h.2])
      | (simp only [Bool.and_eq_true, beq_iff_eq] at h; rw [h.1, ih _ _ h.2])
      | (rw [ha _ _ h])
      | cases h

end Go.Ab

/- AbDraw7 -/
namespace Go.Ab
set_option linter.unusedVariables false
set_option linter.unusedSimpArgs false

/-- does it come to the same on every heap? -/
def free (o : Oper) : Bool :=
  match o.op with
  | .move _ | .assign _ | .pick .. | .build .. | .nilCheck _ | .unOp .. | .makeInterface .. | .makeFunc .. | .fieldAddr .. | .field .. | .indexAddr .. | .index .. | .typeAssert .. | .extract .. => true
  | _ => false

section
variable {P : Program} {ρ : Operand → Option Value}

theorem valH_free {h g : AH} {v : Option Value} {u : Value} (hh : valH h v = some (.val u h)) : valH g v = some (.val u g) := by
  obtain ⟨w, rfl, e⟩ := valH_eq hh
  cases e; rfl

theorem free_val {o : Oper} {h g : AH} {v : Value} (hf : free o = true) (hh : absOp P ρ o h = some (.val v h)) : absOp P ρ o g = some (.val v g) := by
  unfold free at hf
  unfold absOp at hh ⊢
  cases ho : o.op with
  | move x => simp only [ho] at hh ⊢; exact valH_free hh
  | assign x => simp only [ho] at hh ⊢; exact valH_free hh
  | pick c a b => simp only [ho] at hh ⊢; (repeat' split at hh) <;> first | (simp_all only []; exact valH_free hh) | cases hh
  | build t l => simp only [ho] at hh ⊢; (repeat' split at hh) <;> first | (simp_all only []; exact valH_free hh) | cases hh
  | nilCheck x =>
    simp only [ho] at hh ⊢
    split at hh
    · split at hh
      · rename_i hn; cases hh; rw [if_pos hn]
      · cases hh
    · cases hh
  | unOp op t x =>
    simp only [ho] at hh ⊢
    split at hh
    · split at hh
      · rename_i hn; rw [if_pos hn]; exact valH_free hh
      · cases hh
    · cases hh
  | makeInterface t x => simp only [ho] at hh ⊢; split at hh <;> first | exact valH_free hh | cases hh
  | makeFunc fn l m =>
    simp only [ho] at hh ⊢
    cases fn
    case func f =>
      simp only at hh ⊢
      split at hh
      · cases hh; rfl
      · cases hh
    case method f =>
      simp only at hh ⊢
      split at hh
      · cases hh; rfl
      · cases hh
    all_goals (cases hh)
  | fieldAddr t x f => simp only [ho] at hh ⊢; split at hh <;> first | exact valH_free hh | cases hh
  | field t x f => simp only [ho] at hh ⊢; split at hh <;> first | exact valH_free hh | cases hh
  | indexAddr t x y => simp only [ho] at hh ⊢; split at hh <;> first | exact valH_free hh | cases hh
  | index t x y => simp only [ho] at hh ⊢; split at hh <;> first | exact valH_free hh | cases hh
  | typeAssert x a b c => simp only [ho] at hh ⊢; split at hh <;> first | exact valH_free hh | cases hh
  | extract x i => simp only [ho] at hh ⊢; split at hh <;> first | exact valH_free hh | cases hh
  | _ => simp [ho] at hf

end

theorem free_loud {P : Program} {o : Oper} (h : free o = true) : loud P o = false := by
  unfold free at h
  unfold loud
  cases ho : o.op <;> rw [ho] at h <;> first | rfl | (cases h; done)

/-- what has run ahead of each operation, whatever the order -/
def clo : List Oper → List (List Nat) → List (List Nat)
  | [], acc => acc
  | o :: l, acc => clo l (acc ++ [(o.after.toList.filter strong).flatMap fun e => e.on :: acc.getD e.on []])

theorem clo_ahead {ops : Array Oper} : ∀ (l : List Oper) (acc : List (List Nat)), ops.toList.drop acc.length = l → acc.length ≤ ops.size →
    (∀ i, ∀ j ∈ acc.getD i [], ∀ m k, Good m ops (i :: k) → j ∈ k) → ∀ i, ∀ j ∈ (clo l acc).getD i [], ∀ m k, Good m ops (i :: k) → j ∈ k := by
  intro l
  induction l with
  | nil => intro acc _ _ h; exact h
  | cons o l ih =>
    intro acc hd hle h
    have hlt : acc.length < ops.size := by
      apply Classical.byContradiction
      intro hc
      rw [List.drop_eq_nil_of_le (by simpa using Nat.le_of_not_lt hc)] at hd
      cases hd
    have ho : ops[acc.length]? = some o := by
      have : ops.toList[acc.length]? = some o := by
        rw [← List.head?_drop, hd]; rfl
      simpa using this
    refine ih _ ?_ (by simp; omega) ?_
    · rw [List.length_append, List.length_singleton, ← List.drop_drop, hd]; rfl
    · intro i j hj m k hg
      by_cases e : i < acc.length
      · rw [List.getD_eq_getElem?_getD, List.getElem?_append_left e, ← List.getD_eq_getElem?_getD] at hj
        exact h i j hj m k hg
      · by_cases e2 : i = acc.length
        · subst e2
          rw [List.getD_eq_getElem?_getD, List.getElem?_append_right (Nat.le_refl _)] at hj
          simp only [Nat.sub_self, List.getElem?_cons_zero, Option.getD_some, List.mem_flatMap, List.mem_filter] at hj
          obtain ⟨ed, ⟨he, hst⟩, hj⟩ := hj
          obtain ⟨hg1, hg2, o', ho', hg3⟩ := hg
          rw [ho] at ho'; cases ho'
          have hon := hg3 ed (by simpa using he) (strong_binds hst m)
          cases hj with
          | head => exact hon
          | tail _ hj =>
            obtain ⟨l1, l2, rfl⟩ := List.append_of_mem hon
            have := h ed.on j hj m l2 hg1.drop
            exact List.mem_append_right _ (List.mem_cons_of_mem _ this)
        · rw [List.getD_eq_getElem?_getD, List.getElem?_eq_none (by simp; omega)] at hj
          cases hj

def below (n : Nat) (f : Nat → Bool) : Bool := (List.range n).all f
theorem below_at {n : Nat} {f : Nat → Bool} (h : below n f = true) {i : Nat} (hi : i < n) : f i = true := List.all_eq_true.1 h i (List.mem_range.2 hi)

/-- the part of the check that hangs on the code alone -/
def staticB (ops : Array Oper) : Bool :=
  backs ops &&
  (let pl := clo ops.toList []
   below ops.size fun i => below ops.size fun k => i == k || match ops[i]?, ops[k]? with
    | some x, some y =>
      (match y.dst with
        | none => true
        | some d => if (readsOf ops x).contains d || x.dst == some d then (if k < i then (pl.getD i []).contains k else (pl.getD k []).contains i) else true)
    | _, _ => true)

/-- can an operation run when just the loud ones up to q have? -/
def feasible (rs : List Rec) (pl : List (List Nat)) (i : Nat) (q : Option Nat) : Bool :=
  ((pl.getD i []).all fun p => !loudAt rs p || (match q with | some l => decide (p ≤ l) | none => false)) &&
  (match q with | some l => below (l + 1) fun l' => !loudAt rs l' || !(pl.getD l' []).contains i | none => true)

def sameAt (P : Program) (call : CallF) (ops : Array Oper) (rs : List Rec) (h : AH) (r : Rec) (q : Option Nat) : Bool :=
  match stepAt P call ops r.o r.a (heapT rs h q) with
  | some (v, false, _) => veq 12 v r.v
  | _ => false

/-- what comes to the same on every heap -/
def freeRec (ops : Array Oper) (r : Rec) : Bool := (free r.o && !loudOp r.o) || !Region.wanted r.o (r.a.yielded ops)
  where loudOp (o : Oper) : Bool := match o.op with | .call _ => true | _ => false

/-- the part that hangs on the run: what may change the heap is in order, and what doesn't yields the same wherever it may run -/
def dynB (P : Program) (call : CallF) (ops : Array Oper) (rs : List Rec) (h : AH) (pl : List (List Nat)) : Bool :=
  (below rs.length fun i => !loudAt rs i || below i fun k => !loudAt rs k || (pl.getD i []).contains k) &&
  below rs.length fun i => match rs[i]? with
    | some r => r.q || freeRec ops r ||
      (let t := lastB (loudAt rs) i
       (t == none || !feasible rs pl i none || sameAt P call ops rs h r none) && below rs.length fun l => !loudAt rs l || t == some l || !feasible rs pl i (some l) || sameAt P call ops rs h r (some l))
    | none => true

def drawRun (P : Program) (call : CallF) (ops : Array Oper) (a : AA) (h : AH) : Option (AA × AH) :=
  if staticB ops then match trace P call ops ops.toList a h with
    | some (rs, a₂, h₂) => if dynB P call ops rs h (clo ops.toList []) then some (a₂, h₂) else none
    | none => none
  else none

theorem drawRun_ok {P : Program} {ro : Option Nat} {D : List Deferred} {call : CallF} (hc : CallOk P call) {ops : Array Oper} {a a₂ : AA} {h h₂ : AH} (hd : drawRun P call ops a h = some (a₂, h₂)) {id : Nat} {E : Ren} {w : World} {x : Act}
    {Q : Exit → Act → World → Prop} (r : RW P E h w) (rt : RT E a x.tmps) (hdf : x.defers = D)
    (hQ : ∀ E' w' y, RW P E' h₂ w' → Ext E w E' w' → RT E' a₂ y.tmps → y.defers = D → Q .normal y w') : (Code.region id ops true).wpR ro P Q x w := by
  unfold drawRun at hd
  split at hd
  case isFalse => cases hd
  rename_i hst
  split at hd
  case h_2 => cases hd
  rename_i rs a₃ h₃ ht
  split at hd
  case isFalse => cases hd
  rename_i hdy
  cases hd
  unfold staticB at hst
  simp only [Bool.and_eq_true] at hst
  obtain ⟨hback, hst⟩ := hst
  unfold dynB at hdy
  rw [Bool.and_eq_true] at hdy
  obtain ⟨hld, hdy⟩ := hdy
  obtain ⟨q1, q2, q3, q4, q5, q6⟩ := trace_get ht
  have q1' : rs.length = ops.size := by rw [q1]; simp
  have hops : ∀ (i : Nat) y, rs[i]? = some y → ops[i]? = some y.o ∧ i < ops.size := by
    intro i y hy
    refine ⟨?_, by have := (List.getElem?_eq_some_iff.1 hy).1; omega⟩
    have := (q2 i y hy).1
    simpa using this
  have hpair : ∀ i k x y, rs[i]? = some x → rs[k]? = some y → i ≠ k →
      (∀ d, y.o.dst = some d → (d ∈ readsOf ops x.o ∨ x.o.dst = some d) → (k < i → k ∈ (clo ops.toList []).getD i []) ∧ (i < k → i ∈ (clo ops.toList []).getD k [])) := by
    intro i k x y hx hy hne d hd hr
    obtain ⟨o1, l1⟩ := hops i x hx
    obtain ⟨o2, l2⟩ := hops k y hy
    have t1 := below_at (below_at hst l1) l2
    simp only [o1, o2, Bool.or_eq_true, beq_iff_eq, hne, false_or] at t1
    rw [hd] at t1
    simp only at t1
    rw [if_pos (by simpa using hr)] at t1
    refine ⟨fun hk => ?_, fun hk => ?_⟩
    · rw [if_pos hk] at t1; simpa using t1
    · rw [if_neg (by omega)] at t1; simpa using t1
  have hlt : ∀ i, loudAt rs i = true → i < rs.length := by
    intro i hi
    unfold loudAt at hi
    split at hi
    · rename_i y hy; exact (List.getElem?_eq_some_iff.1 hy).1
    · cases hi
  have hord : Ordered P call ops rs a.n h fun i => (clo ops.toList []).getD i [] := by
    refine ⟨fun m i l hg j hj => clo_ahead ops.toList [] (by simp) (by simp) (fun i j hj => by simp at hj) i j hj m l hg, fun i k x y d hx hy hne hd hlt hr => hpair i k x y hx hy hne d hd hr, fun i k hi hk hki => ?_, ?_⟩
    · have := below_at hld (hlt i hi)
      rw [hi] at this
      simp only [Bool.not_true, Bool.false_or] at this
      have := below_at this hki
      rw [hk] at this
      simpa using this
    · intro i r hr hq q hql hf1 hf2
      obtain ⟨o1, l1⟩ := hops i r hr
      obtain ⟨s1, s2⟩ := q2 i r hr
      obtain ⟨g1, g2, g3⟩ := text_get hc ht i r hr
      rw [hq] at s2
      have hh := quiet_step hc s2
      rw [hh] at s2
      have hdy' := below_at hdy (q1' ▸ l1)
      rw [hr] at hdy'
      simp only [hq, Bool.false_or, Bool.or_eq_true, Bool.and_eq_true] at hdy'
      rcases hdy' with hfree | ⟨hn, hs⟩
      · -- the same on every heap
        unfold stepAt at s2 ⊢
        split at s2
        case isFalse => cases s2
        rename_i hk
        rw [if_pos hk]
        split at s2
        · rename_i hw
          rw [if_pos hw]
          unfold freeRec at hfree
          rw [hw] at hfree
          simp only [Bool.not_true, Bool.or_false, Bool.and_eq_true] at hfree
          have hfz : (if varArg ops r.o then frozOf P (r.a.opnd P) r.o else none) = none := by
            split
            · unfold frozOf
              split
              · rename_i ho
                have := hfree.1
                unfold free at this
                rw [ho] at this
                cases this
              · rfl
            · rfl
          rw [hfz] at s2 ⊢
          simp only at s2 ⊢
          split at s2
          · rename_i u g hop
            have e1 : u = r.v := congrArg (fun x => x.1) (Option.some.inj s2)
            have e2 : loud P r.o = false := congrArg (fun x => x.2.1) (Option.some.inj s2)
            have e3 : g = r.h := congrArg (fun x => x.2.2) (Option.some.inj s2)
            subst e1
            rw [e3] at hop
            rw [free_val hfree.1 hop, e2]
          · exact absurd (congrArg (fun x => x.2.1) (Option.some.inj s2)) (by simp)
          · rename_i f args g hop
            obtain ⟨u, hu⟩ := quiet_val (free_loud hfree.1) hop
            cases hu
          · cases s2
        · rename_i hw
          rw [if_neg hw]
          have ev : undef = r.v := congrArg (fun x => x.1) (Option.some.inj s2)
          rw [← ev]
      · have fin : sameAt P call ops rs h r q = true → stepAt P call ops r.o r.a (heapT rs h q) = some (r.v, false, heapT rs h q) := by
          intro hsame
          unfold sameAt at hsame
          split at hsame
          · rename_i v g hop
            rw [hop, quiet_step hc hop, veq_eq _ _ _ hsame]
          · cases hsame
        have text : lastB (loudAt rs) i = q → stepAt P call ops r.o r.a (heapT rs h q) = some (r.v, false, heapT rs h q) := by
          intro e
          rw [← e, ← g3]; exact s2
        have hfeas : feasible rs (clo ops.toList []) i q = true := by
          unfold feasible
          simp only [Bool.and_eq_true, List.all_eq_true, Bool.or_eq_true, Bool.not_eq_true']
          refine ⟨fun p hp => ?_, ?_⟩
          · cases hlp : loudAt rs p with
            | false => exact .inl rfl
            | true =>
              right
              obtain ⟨l, rfl, hle⟩ := hf1 p hp hlp
              simpa using hle
          · cases q with
            | none => rfl
            | some l =>
              simp only [below, List.all_eq_true, List.mem_range, Bool.or_eq_true, Bool.not_eq_true']
              intro l' hl'
              cases hlp : loudAt rs l' with
              | false => exact .inl rfl
              | true =>
                right
                have := hf2 l' hlp ⟨l, rfl, by omega⟩
                simpa using this
        cases q with
        | none =>
          rcases hn with (e | e) | e
          · exact text (by simpa using e)
          · rw [hfeas] at e; cases e
          · exact fin e
        | some l =>
          have hll := hql l rfl
          have := below_at hs (hlt l hll)
          simp only [hll, hfeas, Bool.not_true, Bool.false_or, Bool.or_false, Bool.or_eq_true] at this
          rcases this with e | e
          · exact text (by simpa using e)
          · exact fin e
  refine wpR_region_draw fun t => ?_
  obtain ⟨m, l, e, hg, hl⟩ := schedule_good (mixed := P.follows .mixedOrders) hback t
  rw [e]
  have rd : RW P E h { w with drawn := w.drawn + 1 } := r.of_heap rfl
  exact draw_wp hc ht hord rd rt hdf (fun E' w' y p1 p2 p3 p4 => hQ E' w' y p1 (p2.of_heap rfl rfl rfl rfl (Nat.le_succ _)) p3 p4) hg hl

/-- what is put is in the log -/
def CallLogs (call : CallF) : Prop := ∀ f args h v q h', call f args h = some (v, q, h') → Logs h h'

theorem step_logs {P : Program} {call : CallF} (hl : CallLogs call) {ops : Array Oper} {o : Oper} {a : AA} {h h' : AH} {v : Value} {q : Bool} (hs : stepAt P call ops o a h = some (v, q, h')) : Logs h h' := by
  unfold stepAt at hs
  split at hs
  case isFalse => cases hs
  split at hs
  · split at hs
    · cases hs; exact .refl _
    split at hs
    · rename_i u g hop; cases hs; exact absOp_logs hop
    · rename_i g hop; cases hs; exact absOp_logs hop
    · rename_i f args g hop; exact (absOp_logs hop).trans (hl f args g v q h' hs)
    · cases hs
  · cases hs; exact .refl _

theorem trace_logs {P : Program} {call : CallF} (hl : CallLogs call) {ops : Array Oper} : ∀ {l : List Oper} {a : AA} {h : AH} {rs : List Rec} {a₂ : AA} {h₂ : AH}, trace P call ops l a h = some (rs, a₂, h₂) → Logs h h₂ := by
  intro l
  induction l with
  | nil => intro a h rs a₂ h₂ ht; cases ht; exact .refl _
  | cons o l ih =>
    intro a h rs a₂ h₂ ht
    simp only [trace] at ht
    split at ht
    · rename_i v q h' hs
      split at ht
      · rename_i rs' a₃ h₃ ht'
        cases ht
        exact (step_logs hl hs).trans (ih ht')
      · cases ht
    · cases ht

theorem drawRun_logs {P : Program} {call : CallF} (hl : CallLogs call) {ops : Array Oper} {a a₂ : AA} {h h₂ : AH} (hd : drawRun P call ops a h = some (a₂, h₂)) : Logs h h₂ := by
  unfold drawRun at hd
  split at hd
  case isFalse => cases hd
  split at hd
  case h_2 => cases hd
  rename_i rs a₃ h₃ ht
  split at hd
  case isFalse => cases hd
  cases hd
  exact trace_logs hl ht

theorem absOps_logs {P : Program} {call : CallF} (hl : CallLogs call) {ops : Array Oper} : ∀ (l : List Nat) {a : AA} {h : AH} {a₂ : AA} {h₂ : AH}, absOps P call ops l a h = some (a₂, h₂) → Logs h h₂ := by
  intro l
  induction l with
  | nil => intro a h a₂ h₂ hh; cases hh; exact .refl _
  | cons i rest ih =>
    intro a h a₂ h₂ hh
    simp only [absOps] at hh
    split at hh
    · exact ih hh
    · split at hh
      case isFalse => cases hh
      split at hh
      · split at hh
        · rename_i hop; exact (absOp_logs hop).trans (ih hh)
        · rename_i hop; exact (absOp_logs hop).trans (ih hh)
        · rename_i f args h' hop
          split at hh
          · rename_i v q h'' hcall; exact ((absOp_logs hop).trans (hl _ _ _ _ _ _ hcall)).trans (ih hh)
          · cases hh
        · cases hh
      · exact ih hh

end Go.Ab

/- AbFn -/
namespace Go.Ab
set_option linter.unusedVariables false
set_option linter.unusedSimpArgs false

def codeA (P : Program) (call : CallF) (k : Nat) : Code → AA → AH → Option (AX × AA × AH)
  | .skip, a, h | .label _, a, h => some (.normal, a, h)
  | .region _ ops draw, a, h => match (if draw then drawRun P call ops a h else absOps P call ops (List.range ops.size) a h) with
    | some (a', h') => some (.normal, a', h')
    | none => none
  | .seq x y, a, h => match codeA P call k x a h with
    | some (.normal, a', h') => codeA P call k y a' h'
    | r => r
  | .cond c x y, a, h => match a.opnd P c with
    | some (.bool true) => codeA P call k x a h
    | some (.bool false) => codeA P call k y a h
    | _ => none
  | .block id x, a, h => match codeA P call k x a h with
    | some (.exit j, a', h') => if j = id then some (.normal, a', h') else some (.exit j, a', h')
    | r => r
  | .loop x, a, h => loopN (codeA P call k x) k a h
  | .exit id, a, h => some (.exit id, a, h)
  | .goto l, a, h => some (.goto l, a, h)
  | .ret, a, h => some (.ret, a, h)
  | _, _, _ => none

/-- functions of which it is given what they do, and the others by their code -/
def fnX (P : Program) (X : CallF) : Nat → CallF
  | 0, _, _, _ => none
  | n + 1, f, args, h =>
    match X f args h with
    | some r => some r
    | none => match P.funcs[f]? with
      | some fn => match fn.body with
        | some c => match codeA P (fnX P X n) n c ⟨tmsOf 0 args.toList .leaf, args.size + (fn.ntmps - args.size), {}⟩ { h with log := [] } with
          | some (.normal, a, h') | some (.ret, a, h') => match resultsOf P a h' fn.results.toList with
            | some vs => some (oneOf vs, tidy h h' (oneOf vs))
            | none => none
          | _ => none
        | none => none
      | none => none

abbrev fnA (P : Program) : Nat → CallF := fnX P fun _ _ _ => none

theorem codeA_ok {P : Program} {call : CallF} (hc : CallOk P call) (k : Nat) : ∀ c : Code, CodeOk P c (codeA P call k c) := by
  intro c
  induction c with
  | skip =>
    intro a h e a₂ h₂ hh ro D E w x Q r rt hd hQ
    cases hh
    exact wpIn_skip (hQ E w x r (.refl E w) rt hd)
  | label l =>
    intro a h e a₂ h₂ hh ro D E w x Q r rt hd hQ
    cases hh
    exact wpIn_label (hQ E w x r (.refl E w) rt hd)
  | region id ops draw =>
    intro a h e a₂ h₂ hh ro D E w x Q r rt hd hQ
    simp only [codeA] at hh
    split at hh
    · rename_i a' h' hops
      cases hh
      cases draw
      · exact wpR_region (absOps_wp hc _ (by simpa using hops) r rt hd hQ)
      · exact drawRun_ok hc (by simpa using hops) r rt hd hQ
    · cases hh
  | seq p q ihp ihq =>
    intro a h e a₂ h₂ hh ro D E w x Q r rt hd hQ
    simp only [codeA] at hh
    split at hh
    · rename_i a' h' hp
      exact wpIn_seq (ihp hp r rt hd fun E' w' y q1 q2 q3 q4 => ihq hh q1 q3 q4 fun E'' w'' y' p1 p2 p3 p4 => hQ E'' w'' y' p1 (q2.trans p2) p3 p4)
    · rename_i hne
      refine wpIn_seq (ihp hh r rt hd fun E' w' y q1 q2 q3 q4 => ?_)
      have := hQ E' w' y q1 q2 q3 q4
      cases e with
      | normal => exact absurd hh (hne _ _)
      | _ => exact this
  | cond c p q ihp ihq =>
    intro a h e a₂ h₂ hh ro D E w x Q r rt hd hQ
    simp only [codeA] at hh
    split at hh
    · rename_i hb
      have hv := rt.opnd r c _ hb
      generalize hx : x.eval c = u at hv
      cases hv
      exact wpIn_cond_true hx (ihp hh r rt hd hQ)
    · rename_i hb
      have hv := rt.opnd r c _ hb
      generalize hx : x.eval c = u at hv
      cases hv
      exact wpIn_cond_false hx (ihq hh r rt hd hQ)
    · cases hh
  | block id p ihp =>
    intro a h e a₂ h₂ hh ro D E w x Q r rt hd hQ
    simp only [codeA] at hh
    split at hh
    · rename_i j a' h' hp
      refine wpIn_block (ihp hp r rt hd fun E' w' y q1 q2 q3 q4 => ?_)
      simp only [AX.toExit, Exit.inBlock]
      split at hh
      · rename_i e; rw [if_pos e]; cases hh; exact hQ E' w' y q1 q2 q3 q4
      · rename_i e; rw [if_neg e]; cases hh; exact hQ E' w' y q1 q2 q3 q4
    · rename_i hne
      refine wpIn_block (ihp hh r rt hd fun E' w' y q1 q2 q3 q4 => ?_)
      have := hQ E' w' y q1 q2 q3 q4
      cases e with
      | exit j => exact absurd hh (hne _ _ _)
      | _ => exact this
  | loop p ihp => exact loopN_ok ihp k
  | exit id =>
    intro a h e a₂ h₂ hh ro D E w x Q r rt hd hQ
    cases hh
    exact wpIn_exit (hQ E w x r (.refl E w) rt hd)
  | goto l =>
    intro a h e a₂ h₂ hh ro D E w x Q r rt hd hQ
    cases hh
    exact wpIn_goto (hQ E w x r (.refl E w) rt hd)
  | ret =>
    intro a h e a₂ h₂ hh ro D E w x Q r rt hd hQ
    cases hh
    exact wpIn_ret (hQ E w x r (.refl E w) rt hd)
  | _ =>
    intro a h e a₂ h₂ hh
    cases hh

theorem loopN_logs {f : AA → AH → Option (AX × AA × AH)} (hf : ∀ {a h e a' h'}, f a h = some (e, a', h') → Logs h h') : ∀ k {a h e a' h'}, loopN f k a h = some (e, a', h') → Logs h h' := by
  intro k
  induction k with
  | zero => intro a h e a' h' hh; cases hh
  | succ k ih =>
    intro a h e a' h' hh
    simp only [loopN] at hh
    split at hh
    · rename_i a1 h1 hb; exact (hf hb).trans (ih hh)
    · exact hf hh

theorem codeA_logs {P : Program} {call : CallF} (hl : CallLogs call) (k : Nat) : ∀ (c : Code) {a h e a' h'}, codeA P call k c a h = some (e, a', h') → Logs h h' := by
  intro c
  induction c with
  | region id ops draw =>
    intro a h e a' h' hh
    simp only [codeA] at hh
    split at hh
    · rename_i a1 h1 hops
      cases hh
      cases draw
      · exact absOps_logs hl _ (by simpa using hops)
      · exact drawRun_logs hl (by simpa using hops)
    · cases hh
  | seq p q ihp ihq =>
    intro a h e a' h' hh
    simp only [codeA] at hh
    split at hh
    · rename_i a1 h1 hp; exact (ihp hp).trans (ihq hh)
    · exact ihp hh
  | cond c p q ihp ihq =>
    intro a h e a' h' hh
    simp only [codeA] at hh
    split at hh
    · exact ihp hh
    · exact ihq hh
    · cases hh
  | block id p ihp =>
    intro a h e a' h' hh
    simp only [codeA] at hh
    split at hh
    · rename_i j a1 h1 hp
      split at hh <;> (cases hh; exact ihp hp)
    · exact ihp hh
  | loop p ihp =>
    intro a h e a' h' hh
    exact loopN_logs (fun hb => ihp hb) k hh
  | skip => intro a h e a' h' hh; cases hh; exact .refl _
  | label l => intro a h e a' h' hh; cases hh; exact .refl _
  | exit id => intro a h e a' h' hh; cases hh; exact .refl _
  | goto l => intro a h e a' h' hh; cases hh; exact .refl _
  | ret => intro a h e a' h' hh; cases hh; exact .refl _
  | _ => intro a h e a' h' hh; cases hh

theorem fnX_logs (P : Program) {X : CallF} (hX : CallLogs X) : ∀ n, CallLogs (fnX P X n) := by
  intro n
  induction n with
  | zero => intro f args h v q h' hh; cases hh
  | succ n ih =>
    intro f args h v q h' hh
    simp only [fnX] at hh
    split at hh
    · rename_i r hx
      cases hh
      exact hX f args h v q h' hx
    · repeat' split at hh
      all_goals first
        | (cases hh; done)
        | (rename_i hcode _ vs hvs
           have hlg := codeA_logs ih n _ hcode
           have ht := (tidy_logs (h₀ := h) (v := oneOf vs) hlg).1
           have e2 := congrArg (fun x => x.2.2) (Option.some.inj hh)
           simp only at e2
           rw [← e2]
           exact ht)

theorem fnX_ok (P : Program) {X : CallF} (hX : CallOk P X) (hl : CallLogs X) : ∀ n, CallOk P (fnX P X n) := by
  intro n
  induction n with
  | zero => intro f args h v q h' hh; cases hh
  | succ n ih =>
    intro f args h v q h' hh
    simp only [fnX] at hh
    split at hh
    · rename_i y hx
      cases hh
      exact hX f args h v q h' hx
    split at hh
    case h_2 => cases hh
    rename_i fn hf
    split at hh
    case h_2 => cases hh
    rename_i c hb
    have fin : ∀ (e : AX) (a : AA) (hx : AH), (e = .normal ∨ e = .ret) → codeA P (fnX P X n) n c ⟨tmsOf 0 args.toList .leaf, args.size + (fn.ntmps - args.size), {}⟩ { h with log := [] } = some (e, a, hx) →
        (∃ vs, resultsOf P a hx fn.results.toList = some vs ∧ v = oneOf vs ∧ (q, h') = tidy h hx (oneOf vs)) →
        (q = false → h' = h) ∧ ∀ E w args', RW P E h w → RA E args args' → Calls P f args' w fun e w' => ∃ E' v', e = .returned v' ∧ RW P E' h' w' ∧ Ext E w E' w' ∧ RV E' v v' := by
      rintro e a hx he hcode ⟨vs, h1, rfl, ht⟩
      have hlg := codeA_logs (fnX_logs P hl n) n c hcode
      have e1 : q = (tidy h hx (oneOf vs)).1 := congrArg Prod.fst ht
      have e2 : h' = (tidy h hx (oneOf vs)).2 := congrArg Prod.snd ht
      refine ⟨fun hq => by rw [e2]; exact (tidy_logs hlg).2 (e1 ▸ hq), fun E w args' r ra => ?_⟩
      refine calls_of_wp hf hb (wp_of_wpR ?_)
      have hst := RT.start ra fn.ntmps
      have r0 : RW P E { h with log := [] } w := r.less (Nat.le_refl _) fun k y hk => hk
      refine codeA_ok ih n c hcode (D := []) r0 hst rfl fun E' w' y q1 q2 q3 q4 => ?_
      obtain ⟨v', g1, g2⟩ := results_run q1 q3 h1
      obtain ⟨E2, p1, p2, p3⟩ := tidy_ok r q1 q2 g2 hlg
      rw [← e2] at p1
      rcases he with rfl | rfl <;> exact ⟨q4, v', g1, E2, v', rfl, p1, p2, p3⟩
    split at hh
    · rename_i a hx hcode
      split at hh
      · rename_i vs hvs
        exact fin .normal a hx (.inl rfl) hcode ⟨vs, hvs, (congrArg Prod.fst (Option.some.inj hh)).symm, (congrArg Prod.snd (Option.some.inj hh)).symm⟩
      · cases hh
    · rename_i a hx hcode
      split at hh
      · rename_i vs hvs
        exact fin .ret a hx (.inr rfl) hcode ⟨vs, hvs, (congrArg Prod.fst (Option.some.inj hh)).symm, (congrArg Prod.snd (Option.some.inj hh)).symm⟩
      · cases hh
    · cases hh

theorem fnA_logs (P : Program) (n : Nat) : CallLogs (fnA P n) := fnX_logs P (fun f args h v q h' hh => by cases hh) n
theorem fnA_ok (P : Program) (n : Nat) : CallOk P (fnA P n) := fnX_ok P (fun f args h v q h' hh => by cases hh) (fun f args h v q h' hh => by cases hh) n

end Go.Ab

/- AbOpen -/
namespace Go.Ab
set_option linter.unusedVariables false
set_option linter.unusedSimpArgs false

/-- kinds of data: whole numbers, truth values, texts, slices, arrays, structs (a chain of cons, ended by nil) -/
inductive Ty where
  | int (k : IntKind)
  | bool
  | str
  | slice (t : Ty)
  | arr (n : Nat) (t : Ty)
  | nil
  | cons (t r : Ty)

abbrev Ty.T : Ty → Type
  | .int _ => Int
  | .bool => Bool
  | .str => ByteArray
  | .slice t => Option (List t.T)
  | .arr _ t => List t.T
  | .nil => Unit
  | .cons t r => t.T × r.T

/-- one value out of cells -/
def Ty.one : Ty → List Value → Value
  | .arr _ _, l | .nil, l | .cons _ _, l => .agg l.toArray
  | _, l => l.headD undef

/-- the cells of a datum -/
def Ty.enc : (t : Ty) → t.T → List Value
  | .int k, n => [.int k n]
  | .bool, b => [.bool b]
  | .str, s => [.string s]
  | .slice _, none => [.slice none 0 0]
  | .slice t, some l => [VSl (l.map fun x => t.one (t.enc x))]
  | .arr _ t, l => l.flatMap t.enc
  | .nil, _ => []
  | .cons t r, x => t.enc x.1 ++ r.enc x.2

/-- the value of a datum -/
def Ty.val (t : Ty) (x : t.T) : Value := t.one (t.enc x)

/-- in bounds -/
def Ty.WF : (t : Ty) → t.T → Prop
  | .int k, n => (Lit.int k n).wf = true
  | .bool, _ => True
  | .str, s => s.size ≤ maxLen
  | .slice _, none => True
  | .slice t, some l => ∀ x ∈ l, t.WF x
  | .arr n t, l => l.length = n ∧ ∀ x ∈ l, t.WF x
  | .nil, _ => True
  | .cons t r, x => t.WF x.1 ∧ r.WF x.2

/-- how much there is to read -/
def Ty.bulk : (t : Ty) → t.T → Nat
  | .int _, _ => 1
  | .bool, _ => 1
  | .str, s => s.size + 1
  | .slice _, none => 1
  | .slice t, some l => (l.map t.bulk).sum + 1
  | .arr _ t, l => (l.map t.bulk).sum + 1
  | .nil, _ => 0
  | .cons t r, x => t.bulk x.1 + r.bulk x.2

/-- is the program's type of that kind? (ctx: what is left of a struct's fields) -/
def Ty.has (P : Program) : Ty → Option (List Field × Nat × Nat) → TypeId → Bool
  | .int k, none, t => match P.underlying t with | some (.int k') => k == k' && P.cellsOf t == 1 | _ => false
  | .bool, none, t => match P.underlying t with | some .bool => P.cellsOf t == 1 | _ => false
  | .str, none, t => match P.underlying t with | some .string => P.cellsOf t == 1 | _ => false
  | .slice e, none, t => match P.underlying t with | some (.slice e') => e.has P none e' && decide (0 < P.cellsOf e') && P.cellsOf t == 1 | _ => false
  | .arr n e, none, t => match P.underlying t with | some (.array m e') => m == n && e.has P none e' && P.cellsOf t == n * P.cellsOf e' | _ => false
  | .nil, some (fs, off, tot), _ => fs.isEmpty && off == tot
  | .nil, none, t => match P.underlying t with | some (.struct fs) => fs.isEmpty && P.cellsOf t == 0 | _ => false
  | .cons a r, some (fs, off, tot), _ => match fs with
    | f :: fs => f.offset == off && a.has P none f.type && r.has P (some (fs, off + P.cellsOf f.type, tot)) 0
    | [] => false
  | .cons a r, none, t => match P.underlying t with
    | some (.struct fs) => match fs.toList with
      | f :: rest => f.offset == 0 && a.has P none f.type && r.has P (some (rest, P.cellsOf f.type, P.cellsOf t)) 0
      | [] => false
    | _ => false
  | _, _, _ => false

/-- cells that lie alike -/
inductive CR (E : Ren) : List Value → List Value → Prop
  | nil : CR E [] []
  | cons {v v' : Value} {l l' : List Value} (h : RV E v v') (t : CR E l l') : CR E (v :: l) (v' :: l')

theorem CR.append {E : Ren} {a a' b b' : List Value} (h : CR E a a') (k : CR E b b') : CR E (a ++ b) (a' ++ b') := by
  induction h with
  | nil => exact k
  | cons h _ ih => exact .cons h ih

theorem CR.length {E : Ren} {a a' : List Value} (h : CR E a a') : a.length = a'.length := by
  induction h with
  | nil => rfl
  | cons _ _ ih => simp [ih]

theorem CR.get {E : Ren} {a a' : List Value} (h : CR E a a') : ∀ (i : Nat) v v', a[i]? = some v → a'[i]? = some v' → RV E v v' := by
  induction h with
  | nil => intro i v v' h; simp at h
  | cons h _ ih =>
    intro i v v' h1 h2
    cases i with
    | zero => simp at h1 h2; subst h1 h2; exact h
    | succ i => exact ih i v v' (by simpa using h1) (by simpa using h2)

theorem CR.ra {E : Ren} {a a' : List Value} (h : CR E a a') : RA E a.toArray a'.toArray := ⟨by simpa using h.length, fun i v v' h1 h2 => h.get i v v' (by simpa using h1) (by simpa using h2)⟩

/-- every row of the world stays as it is -/
def stillR (P : Program) (w : World) : Ren where
  at_ k := if k < P.globals.size then some k else none
  soft _ := none
  fro b := match w.heap[b]? with | some (.cells c _ _) => some c | _ => none

/-- how bulk is told -/
structure Bulky {H : Type} (B : DataW H → Nat) (BA : List (DataW H) → Nat) : Prop where
  str : ∀ s, B (.lit (.string s)) = s.length + 1
  lit : ∀ l, 1 ≤ B (.lit l)
  nil : B .nil = 1
  slice : ∀ e s, B (.slice e s) = BA e + BA s + 1
  agg : ∀ p, B (.agg p) = BA p + 1
  none : BA [] = 0
  cons : ∀ d r, BA (d :: r) = B d + BA r

section
variable {H : Type} {E₀ : TypeId × Value → H} {P : Program} {w : World} {sp : Nat → Bool} {held : Bool} {B : DataW H → Nat} {BA : List (DataW H) → Nat}

theorem sum_le {α : Type} {f : α → Nat} {xs : List (DataW H × List MemPlace)} {l : List α} (hB : Bulky B BA) (hl : l.length = xs.length) (h : ∀ (i : Nat) x d, l[i]? = some x → xs[i]? = some d → f x ≤ B d.1) :
    (l.map f).sum ≤ BA (xs.map (·.1)) := by
  induction xs generalizing l with
  | nil => cases l with
    | nil => simp
    | cons => simp at hl
  | cons x xs ih =>
    cases l with
    | nil => simp at hl
    | cons y l =>
      rw [List.map_cons, List.sum_cons, List.map_cons, hB.cons]
      exact Nat.add_le_add (h 0 y x (by simp) (by simp)) (ih (by simpa using hl) fun i a b ha hb => h (i + 1) a b (by simpa using ha) (by simpa using hb))

theorem mapM_get {α β : Type} {f : α → Option β} : ∀ {l : List α} {r : List β}, l.mapM f = some r → l.length = r.length ∧ ∀ (i : Nat) x, l[i]? = some x → ∃ y, f x = some y ∧ r[i]? = some y := by
  intro l
  induction l with
  | nil => intro r h; simp at h; subst h; exact ⟨rfl, fun i x hx => by simp at hx⟩
  | cons a l ih =>
    intro r h
    rw [List.mapM_cons] at h
    cases ha : f a with
    | none => rw [ha] at h; cases h
    | some y =>
      rw [ha] at h
      cases hr : l.mapM f with
      | none => rw [hr] at h; cases h
      | some r' =>
        rw [hr] at h
        simp at h
        subst h
        obtain ⟨h1, h2⟩ := ih hr
        refine ⟨by simp [h1], fun i x hx => ?_⟩
        cases i with
        | zero => simp at hx; subst hx; exact ⟨y, ha, by simp⟩
        | succ i => simpa using h2 i x (by simpa using hx)

/-- the cells at an address -/
theorem cells_get {a : Addr} {n : Nat} {cs : List Value} (h : w.cells? 0 a n = some cs) : cs.length = n ∧ (0 < n → a.spot = none ∧ ∃ c e fz, w.heap[a.block]? = some (.cells c e fz) ∧ a.off + n ≤ c.size ∧ ∀ i, i < n → c[a.off + i]? = cs[i]?) := by
  unfold World.cells? at h
  rw [if_pos (Nat.zero_le _)] at h
  obtain ⟨h1, h2⟩ := mapM_get h
  rw [List.length_range] at h1
  refine ⟨h1.symm, fun hn => ?_⟩
  obtain ⟨v, hv, _⟩ := h2 0 0 (by rw [List.getElem?_range hn])
  rw [show a.add 0 = a from rfl] at hv
  have hsp : a.spot = none := by
    unfold World.cell? at hv
    split at hv
    · split at hv
      · cases hv
      · rename_i hs; simpa using hs
    · cases hv
  refine ⟨hsp, ?_⟩
  obtain ⟨b, off, spot⟩ := a
  simp only at hsp
  subst hsp
  unfold World.cell? at hv
  split at hv
  · rename_i c e fz hb
    refine ⟨c, e, fz, hb, ?_, fun i hi => ?_⟩
    · obtain ⟨u, hu, _⟩ := h2 (n - 1) (n - 1) (by rw [List.getElem?_range (by omega)])
      rw [add_off] at hu
      unfold World.cell? at hu
      simp only at hb hu
      rw [hb] at hu
      simp at hu
      have := (Array.getElem?_eq_some_iff.1 hu).1
      show off + n ≤ c.size
      omega
    · obtain ⟨u, hu, hg⟩ := h2 i i (by rw [List.getElem?_range hi])
      rw [add_off] at hu
      unfold World.cell? at hu
      simp only at hb hu
      rw [hb] at hu
      simp at hu
      rw [hu, hg]
  · cases hv

theorem one_size {P : Program} : ∀ (ty : Ty) (l : List Value), (∀ t, ty.has P none t = true → l.length = P.cellsOf t → (ty.one l).cells.toList = l ∨ ∃ v, l = [v] ∧ ty.one l = v) := by
  intro ty l t ht hl
  cases ty with
  | arr n t => left; rfl
  | nil => left; rfl
  | cons t r => left; rfl
  | int k =>
    right
    simp only [Ty.has] at ht
    split at ht
    · simp only [Bool.and_eq_true, beq_iff_eq] at ht
      rw [ht.2] at hl
      obtain ⟨v, rfl⟩ := List.length_eq_one_iff.1 hl
      exact ⟨v, rfl, rfl⟩
    · cases ht
  | bool =>
    right
    simp only [Ty.has] at ht
    split at ht
    · simp only [beq_iff_eq] at ht
      rw [ht] at hl
      obtain ⟨v, rfl⟩ := List.length_eq_one_iff.1 hl
      exact ⟨v, rfl, rfl⟩
    · cases ht
  | str =>
    right
    simp only [Ty.has] at ht
    split at ht
    · simp only [beq_iff_eq] at ht
      rw [ht] at hl
      obtain ⟨v, rfl⟩ := List.length_eq_one_iff.1 hl
      exact ⟨v, rfl, rfl⟩
    · cases ht
  | slice e =>
    right
    simp only [Ty.has] at ht
    split at ht
    · simp only [Bool.and_eq_true, beq_iff_eq] at ht
      rw [ht.2] at hl
      obtain ⟨v, rfl⟩ := List.length_eq_one_iff.1 hl
      exact ⟨v, rfl, rfl⟩
    · cases ht

/-- the cells of a datum's value are the datum's cells -/
theorem val_cells : ∀ (ty : Ty) (x : ty.T), (ty.val x).cells.toList = ty.enc x := by
  intro ty x
  cases ty with
  | arr n t => rfl
  | nil => rfl
  | cons t r => rfl
  | int k => rfl
  | bool => rfl
  | str => rfl
  | slice e => cases x <;> rfl

/-- elements at addresses one behind the other -/
theorem elems_open {ty : Ty} {n : Nat} {s : Nat} {get : Nat → Option (List Value)} {f : List Value → Option (DataW H × List MemPlace)} {xs : List (DataW H × List MemPlace)} (hB : Bulky B BA)
    (hx : (List.range n).mapM (fun i => (get i).bind f) = some xs)
    (ih : ∀ cs d, f cs = some d → ∃ x : ty.T, ty.WF x ∧ CR (stillR P w) (ty.enc x) cs ∧ ty.bulk x ≤ B d.1) :
    ∃ l : List ty.T, l.length = n ∧ (∀ x ∈ l, ty.WF x) ∧ (∀ (i : Nat) x, l[i]? = some x → ∃ cs, get i = some cs ∧ CR (stillR P w) (ty.enc x) cs) ∧ (l.map ty.bulk).sum ≤ BA (xs.map (·.1)) := by
  obtain ⟨h1, h2⟩ := mapM_get hx
  rw [List.length_range] at h1
  have key : ∀ i, i < n → ∃ x : ty.T, ty.WF x ∧ (∃ cs, get i = some cs ∧ CR (stillR P w) (ty.enc x) cs) ∧ ∀ d, xs[i]? = some d → ty.bulk x ≤ B d.1 := by
    intro i hi
    obtain ⟨y, hy, hg⟩ := h2 i i (by rw [List.getElem?_range hi])
    rw [Option.bind_eq_some_iff] at hy
    obtain ⟨cs, hc, hf⟩ := hy
    obtain ⟨x, w1, w2, w3⟩ := ih cs y hf
    exact ⟨x, w1, ⟨cs, hc, w2⟩, fun d hd => by rw [hg] at hd; cases hd; exact w3⟩
  have build : ∀ m, m ≤ n → ∃ l : List ty.T, l.length = m ∧ ∀ (i : Nat) x, l[i]? = some x → ty.WF x ∧ (∃ cs, get i = some cs ∧ CR (stillR P w) (ty.enc x) cs) ∧ ∀ d, xs[i]? = some d → ty.bulk x ≤ B d.1 := by
    intro m
    induction m with
    | zero => intro _; exact ⟨[], rfl, fun i x h => by simp at h⟩
    | succ m im =>
      intro hm
      obtain ⟨l, l1, l2⟩ := im (by omega)
      obtain ⟨x, hx⟩ := key m (by omega)
      refine ⟨l ++ [x], by simp [l1], fun i y hy => ?_⟩
      rw [List.getElem?_append] at hy
      split at hy
      · exact l2 i y hy
      · rename_i hge
        have hi : i = m := by
          have := (List.getElem?_eq_some_iff.1 hy).1
          simp at this
          omega
        subst hi
        rw [l1] at hy
        simp at hy
        subst hy
        exact hx
  obtain ⟨l, l1, l2⟩ := build n (Nat.le_refl _)
  refine ⟨l, l1, fun x hx => ?_, fun i x hx => (l2 i x hx).2.1, sum_le hB (by rw [l1, h1]) fun i x d hx hd => (l2 i x hx).2.2 d hd⟩
  obtain ⟨i, hi⟩ := List.mem_iff_getElem?.1 hx
  exact (l2 i x hi).1

theorem flat_open {ty : Ty} {E : Ren} {s : Nat} : ∀ {l : List ty.T} {cs : List Value}, cs.length = l.length * s → (∀ (i : Nat) x, l[i]? = some x → CR E (ty.enc x) ((cs.drop (i * s)).take s)) → CR E (l.flatMap ty.enc) cs := by
  intro l
  induction l with
  | nil => intro cs h _; simp at h; subst h; exact .nil
  | cons x l ih =>
    intro cs h hh
    have h0 := hh 0 x (by simp)
    simp only [Nat.zero_mul, List.drop_zero] at h0
    have hr : CR E (l.flatMap ty.enc) (cs.drop s) := by
      refine ih (by simp [h, Nat.succ_mul]) fun i y hy => ?_
      have := hh (i + 1) y (by simpa using hy)
      rw [List.drop_drop]
      rw [Nat.succ_mul, Nat.add_comm] at this
      exact this
    have := h0.append hr
    rw [List.take_append_drop] at this
    exact this

theorem open_ty (hB : Bulky B BA) : ∀ ty : Ty,
    (∀ t fuel cs d, ty.has P none t = true → DataW.trod E₀ P w 0 sp held fuel t cs = some d → ∃ x : ty.T, ty.WF x ∧ CR (stillR P w) (ty.enc x) cs ∧ ty.bulk x ≤ B d.1) ∧
    (∀ (fs : List Field) (off tot fuel : Nat) (cs : List Value) (xs : List (DataW H × List MemPlace)), ty.has P (some (fs, off, tot)) 0 = true → cs.length = tot → fs.mapM (fun f => DataW.trod E₀ P w 0 sp held fuel f.type ((cs.drop f.offset).take (P.cellsOf f.type))) = some xs →
      ∃ x : ty.T, ty.WF x ∧ CR (stillR P w) (ty.enc x) (cs.drop off) ∧ ty.bulk x ≤ BA (xs.map (·.1))) := by
  intro ty
  induction ty with
  | int k =>
    refine ⟨fun t fuel cs d ht hd => ?_, fun fs off tot fuel cs xs h => by cases h⟩
    simp only [Ty.has] at ht
    split at ht
    · rename_i k' hu
      simp only [Bool.and_eq_true, beq_iff_eq] at ht
      obtain ⟨rfl, _⟩ := ht
      cases fuel with
      | zero => cases hd
      | succ fuel =>
        unfold DataW.trod at hd
        rw [hu] at hd
        split at hd <;> first | (rename_i e _; cases e; done) | skip
        all_goals first
          | (rename_i e; cases e; done)
          | skip
        · rename_i k2 k3 n e
          cases e
          split at hd
          · rename_i hw
            cases hd
            obtain ⟨rfl, hw⟩ := hw
            exact ⟨n, hw, .cons (.int _ _) .nil, hB.lit _⟩
          · cases hd
        all_goals (cases hd)
    · cases ht
  | bool =>
    refine ⟨fun t fuel cs d ht hd => ?_, fun fs off tot fuel cs xs h => by cases h⟩
    simp only [Ty.has] at ht
    split at ht
    · rename_i hu
      cases fuel with
      | zero => cases hd
      | succ fuel =>
        unfold DataW.trod at hd
        rw [hu] at hd
        split at hd <;> first | (rename_i e _; cases e; done) | skip
        all_goals first
          | (rename_i e; cases e; done)
          | skip
        · rename_i b e
          cases hd
          exact ⟨b, trivial, .cons (.bool _) .nil, hB.lit _⟩
        all_goals (cases hd)
    · cases ht
  | str =>
    refine ⟨fun t fuel cs d ht hd => ?_, fun fs off tot fuel cs xs h => by cases h⟩
    simp only [Ty.has] at ht
    split at ht
    · rename_i hu
      cases fuel with
      | zero => cases hd
      | succ fuel =>
        unfold DataW.trod at hd
        rw [hu] at hd
        split at hd <;> first | (rename_i e _; cases e; done) | skip
        all_goals first
          | (rename_i e; cases e; done)
          | skip
        · rename_i s e
          split at hd
          · rename_i hs
            cases hd
            exact ⟨s, hs, .cons (.string _) .nil, by simp only [Ty.bulk]; rw [hB.str]; simp⟩
          · cases hd
        all_goals (cases hd)
    · cases ht
  | slice e ih =>
    refine ⟨fun t fuel cs d ht hd => ?_, fun fs off tot fuel cs xs h => by cases h⟩
    simp only [Ty.has] at ht
    split at ht
    · rename_i e' hu
      simp only [Bool.and_eq_true, beq_iff_eq, decide_eq_true_eq] at ht
      obtain ⟨⟨he, hpos⟩, _⟩ := ht
      cases fuel with
      | zero => cases hd
      | succ fuel =>
        unfold DataW.trod at hd
        rw [hu] at hd
        split at hd <;> first | (rename_i e _; cases e; done) | skip
        all_goals first
          | (rename_i e; cases e; done)
          | skip
        · rename_i e1
          cases e1
          cases hd
          exact ⟨none, trivial, .cons (.nilSlice 0 0) .nil, by simp only [Ty.bulk]; rw [hB.nil]; exact Nat.le_refl _⟩
        · rename_i a len cap e1
          cases e1
          simp only at hd
          split at hd
          · rename_i hc
            rw [Option.bind_eq_some_iff] at hd
            obtain ⟨elems, hel, hd⟩ := hd
            rw [Option.map_eq_some_iff] at hd
            obtain ⟨rest, _, rfl⟩ := hd
            obtain ⟨l, l1, l2, l3, l4⟩ := elems_open (P := P) (w := w) (s := P.cellsOf e') hB hel fun cs d hf => ih.1 e' fuel cs d he hf
            refine ⟨some l, l2, ?_, by simp only [Ty.bulk]; rw [hB.slice]; omega⟩
            refine .cons ?_ .nil
            by_cases h0 : l.length = 0
            · have : l = [] := List.eq_nil_of_length_eq_zero h0
              subst this
              have : len = 0 := by rw [← l1]; rfl
              subst this
              exact .vs0
            · have hfirst : ∃ x, l[0]? = some x := ⟨l[0]'(by omega), List.getElem?_eq_getElem _⟩
              obtain ⟨x0, hx0⟩ := hfirst
              obtain ⟨cs0, g1, _⟩ := l3 0 x0 hx0
              rw [Nat.zero_mul] at g1
              obtain ⟨g2, g3⟩ := cells_get g1
              obtain ⟨hsp, c, ce, fz, hb, _, _⟩ := g3 hpos
              obtain ⟨b, off, spot⟩ := a
              have hsp' : spot = none := hsp
              subst hsp'
              have hb' : w.heap[b]? = some (.cells c ce fz) := hb
              have each : ∀ (i : Nat) x, l[i]? = some x → off + i * P.cellsOf e' + P.cellsOf e' ≤ c.size ∧ (e.enc x).length = P.cellsOf e' ∧ ∀ j v v', (e.enc x)[j]? = some v → c[off + i * P.cellsOf e' + j]? = some v' → RV (stillR P w) v v' := by
                intro i x hx
                obtain ⟨cs, q1, q2⟩ := l3 i x hx
                obtain ⟨q3, q4⟩ := cells_get q1
                rw [add_off] at q4
                obtain ⟨_, c', ce', fz', q5, q6, q7⟩ := q4 hpos
                have q5' : w.heap[b]? = some (.cells c' ce' fz') := q5
                rw [hb'] at q5'; cases q5'
                refine ⟨q6, by rw [q2.length, q3], fun j v v' h1 h2 => ?_⟩
                have hj : j < P.cellsOf e' := by
                  have := (List.getElem?_eq_some_iff.1 h1).1
                  rw [q2.length, q3] at this; exact this
                rw [q7 j hj] at h2
                exact q2.get j v v' h1 h2
              have hsz : ∀ v ∈ l.map (fun x => e.one (e.enc x)), v.cells.size = P.cellsOf e' := by
                intro v hv
                obtain ⟨x, hx, rfl⟩ := List.mem_map.1 hv
                obtain ⟨i, hi⟩ := List.mem_iff_getElem?.1 hx
                have h1 := val_cells e x
                unfold Ty.val at h1
                rw [← Array.length_toList, h1]
                exact (each i x hi).2.1
              have hlen : (l.map (fun x => e.one (e.enc x))).length = len := by simp [l1]
              have hle : off + len * P.cellsOf e' ≤ c.size := by
                have hlast : ∃ x, l[len - 1]? = some x := ⟨l[len - 1]'(by omega), List.getElem?_eq_getElem _⟩
                obtain ⟨x, hx⟩ := hlast
                have := (each (len - 1) x hx).1
                have e2 : len * P.cellsOf e' = (len - 1) * P.cellsOf e' + P.cellsOf e' := by
                  rw [← Nat.succ_mul]; congr 1; omega
                omega
              have := RV.vs (E := stillR P w) (l := l.map fun x => e.one (e.enc x)) (b' := b) (off := off) (cap := cap) (s := P.cellsOf e') (c := c) (by simp [stillR, hb']) hpos hsz (by rw [hlen]; exact hle) (by rw [hlen]; exact hc.2.1) fun i v v' h1 h2 => ?_
              · rw [hlen] at this; exact this
              · have hi : i < len * P.cellsOf e' := by
                  have := (List.getElem?_eq_some_iff.1 h1).1
                  rw [flatC_length hsz, hlen] at this; exact this
                have hq : i / P.cellsOf e' < len := (Nat.div_lt_iff_lt_mul hpos).2 hi
                have hjs : i / P.cellsOf e' * P.cellsOf e' + i % P.cellsOf e' = i := by rw [Nat.mul_comm]; exact Nat.div_add_mod i _
                have hx : l[i / P.cellsOf e']? = some (l[i / P.cellsOf e']'(by omega)) := List.getElem?_eq_getElem _
                generalize l[i / P.cellsOf e']'(by omega) = x at hx
                have hat := flatC_at hsz (i % P.cellsOf e') (i := i / P.cellsOf e') (x := e.one (e.enc x)) (by rw [List.getElem?_map, hx]; rfl) (Nat.mod_lt _ hpos)
                rw [hjs] at hat
                rw [hat] at h1
                have h1' : (e.enc x)[i % P.cellsOf e']? = some v := by
                  have h3 := val_cells e x
                  unfold Ty.val at h3
                  rw [← h3, Array.getElem?_toList]; exact h1
                exact (each _ x hx).2.2 _ v v' h1' (by rw [Nat.add_assoc, hjs]; exact h2)
          · cases hd
        all_goals (cases hd)
    · cases ht
  | arr n e ih =>
    refine ⟨fun t fuel cs d ht hd => ?_, fun fs off tot fuel cs xs h => by cases h⟩
    simp only [Ty.has] at ht
    split at ht
    · rename_i m e' hu
      simp only [Bool.and_eq_true, beq_iff_eq] at ht
      obtain ⟨⟨rfl, he⟩, hsz⟩ := ht
      cases fuel with
      | zero => cases hd
      | succ fuel =>
        unfold DataW.trod at hd
        rw [hu] at hd
        dsimp only at hd
        · split at hd
          · rename_i hc
            rw [Option.map_eq_some_iff] at hd
            obtain ⟨xs, hxs, rfl⟩ := hd
            obtain ⟨l, l1, l2, l3, l4⟩ := elems_open (P := P) (w := w) (s := P.cellsOf e') (get := fun i => some ((cs.drop (i * P.cellsOf e')).take (P.cellsOf e'))) (f := DataW.trod E₀ P w 0 sp held fuel e') hB hxs fun cs d hf => ih.1 e' fuel cs d he hf
            refine ⟨l, ⟨l1, l2⟩, flat_open (s := P.cellsOf e') (by rw [l1, ← hsz]; exact hc) fun i x hx => ?_, by simp only [Ty.bulk]; rw [hB.agg]; omega⟩
            obtain ⟨cs', q1, q2⟩ := l3 i x hx
            cases q1
            exact q2
          · cases hd
    · cases ht
  | nil =>
    refine ⟨fun t fuel cs d ht hd => ?_, fun fs off tot fuel cs xs h hl hx => ?_⟩
    · simp only [Ty.has] at ht
      split at ht
      · rename_i fs hu
        simp only [Bool.and_eq_true, beq_iff_eq] at ht
        cases fuel with
        | zero => cases hd
        | succ fuel =>
          unfold DataW.trod at hd
          rw [hu] at hd
          dsimp only at hd
          · split at hd
            · rename_i hc
              have : cs = [] := List.eq_nil_of_length_eq_zero (by rw [hc, ht.2])
              subst this
              exact ⟨(), trivial, .nil, Nat.zero_le _⟩
            · cases hd
      · cases ht
    · simp only [Ty.has, Bool.and_eq_true, beq_iff_eq] at h
      refine ⟨(), trivial, ?_, Nat.zero_le _⟩
      rw [List.drop_eq_nil_of_le (by omega)]
      exact .nil
  | cons a r iha ihr =>
    have step : ∀ (f : Field) (fs : List Field) (off tot fuel : Nat) (cs : List Value) (xs : List (DataW H × List MemPlace)), f.offset = off → a.has P none f.type = true → r.has P (some (fs, off + P.cellsOf f.type, tot)) 0 = true → cs.length = tot →
        (f :: fs).mapM (fun f => DataW.trod E₀ P w 0 sp held fuel f.type ((cs.drop f.offset).take (P.cellsOf f.type))) = some xs →
        ∃ x : (Ty.cons a r).T, (Ty.cons a r).WF x ∧ CR (stillR P w) ((Ty.cons a r).enc x) (cs.drop off) ∧ (Ty.cons a r).bulk x ≤ BA (xs.map (·.1)) := by
      intro f fs off tot fuel cs xs hf ha hr hl hx
      rw [List.mapM_cons] at hx
      cases hy : DataW.trod E₀ P w 0 sp held fuel f.type ((cs.drop f.offset).take (P.cellsOf f.type)) with
      | none => rw [hy] at hx; cases hx
      | some y =>
        rw [hy] at hx
        cases hz : fs.mapM (fun f => DataW.trod E₀ P w 0 sp held fuel f.type ((cs.drop f.offset).take (P.cellsOf f.type))) with
        | none => rw [hz] at hx; cases hx
        | some ys =>
          rw [hz] at hx
          simp at hx
          subst hx
          obtain ⟨x1, a1, a2, a3⟩ := iha.1 f.type fuel _ y ha hy
          obtain ⟨x2, b1, b2, b3⟩ := ihr.2 fs (off + P.cellsOf f.type) tot fuel cs ys hr hl hz
          refine ⟨(x1, x2), ⟨a1, b1⟩, ?_, ?_⟩
          · have h3 := a2.append b2
            rw [hf] at h3
            have e : (cs.drop off).take (P.cellsOf f.type) ++ cs.drop (off + P.cellsOf f.type) = cs.drop off := by
              rw [← List.drop_drop, List.take_append_drop]
            rw [e] at h3
            exact h3
          · simp only [Ty.bulk]
            rw [List.map_cons, hB.cons]
            exact Nat.add_le_add a3 b3
    refine ⟨fun t fuel cs d ht hd => ?_, fun fs off tot fuel cs xs h hl hx => ?_⟩
    · simp only [Ty.has] at ht
      split at ht
      · rename_i fs hu
        split at ht
        · rename_i f rest hfs
          simp only [Bool.and_eq_true, beq_iff_eq] at ht
          obtain ⟨⟨h1, h2⟩, h3⟩ := ht
          cases fuel with
          | zero => cases hd
          | succ fuel =>
            unfold DataW.trod at hd
            rw [hu] at hd
            dsimp only at hd
            · split at hd
              · rename_i hc
                rw [Option.map_eq_some_iff] at hd
                obtain ⟨xs, hxs, rfl⟩ := hd
                rw [hfs] at hxs
                obtain ⟨x, g1, g2, g3⟩ := step f rest 0 (P.cellsOf t) fuel cs xs h1 h2 (by rw [Nat.zero_add]; exact h3) hc hxs
                refine ⟨x, g1, by simpa using g2, ?_⟩
                rw [hB.agg]
                exact Nat.le_succ_of_le g3
              · cases hd
        · cases ht
      · cases ht
    · simp only [Ty.has] at h
      split at h
      · rename_i f fs
        simp only [Bool.and_eq_true, beq_iff_eq] at h
        obtain ⟨⟨h1, h2⟩, h3⟩ := h
        exact step f fs off tot fuel cs xs h1 h2 h3 hl hx
      · cases h

end

end Go.Ab

/- AbRun -/
namespace Go.Ab
open Go.WideShapes
set_option linter.unusedVariables false
set_option linter.unusedSimpArgs false

/-- whatever a call may come to in the end, of it Q holds -/
def HF (P : Program) (f : FuncId) (args : Array Value) (h : AH) (Q : Value → AH → Prop) : Prop := ∀ E w args', RW P E h w → RA E args args' →
  Calls P f args' w fun e w' => ∃ E' v v' h', e = .returned v' ∧ RW P E' h' w' ∧ Ext E w E' w' ∧ RV E' v v' ∧ Q v h'

theorem HF.mono {P : Program} {f : FuncId} {args : Array Value} {h : AH} {Q R : Value → AH → Prop} (a : HF P f args h Q) (hr : ∀ v h', Q v h' → R v h') : HF P f args h R :=
  fun E w args' r ra => (a E w args' r ra).mono fun e w' ⟨E', v, v', h', e1, e2, e3, e4, e5⟩ => ⟨E', v, v', h', e1, e2, e3, e4, hr v h' e5⟩

theorem HF.of_call {P : Program} {call : CallF} (hc : CallOk P call) {f : FuncId} {args : Array Value} {h h' : AH} {v : Value} {q : Bool} (hh : call f args h = some (v, q, h')) : HF P f args h fun u g => u = v ∧ g = h' :=
  fun E w args' r ra => ((hc f args h v q h' hh).2 E w args' r ra).mono fun e w' ⟨E', v', e1, e2, e3, e4⟩ => ⟨E', v, v', h', e1, e2, e3, e4, rfl, rfl⟩

theorem HF.of_fnA {P : Program} (n : Nat) {f : FuncId} {args : Array Value} {h h' : AH} {v : Value} {q : Bool} (hh : fnA P n f args h = some (v, q, h')) : HF P f args h fun u g => u = v ∧ g = h' :=
  HF.of_call (fnA_ok P n) hh

/-- the heap at the beginning of a call: nothing is known of the package-level variables -/
def AH.bare (P : Program) : AH := ⟨.leaf, P.globals.size, []⟩

theorem rw_bare {P : Program} {w : World} (hsz : P.globals.size ≤ w.heap.size) : RW P (stillR P w) (AH.bare P) w where
  glob g hg := by simp only [stillR]; rw [if_pos hg]
  dom k n hk := by
    simp only [stillR] at hk
    split at hk
    · cases hk; exact ⟨by assumption, by omega⟩
    · cases hk
  sdom k x hk := by cases hk
  live k o s hk := by simp [AH.bare, AH.get, T.get] at hk
  inj j k n _ _ gj _ := by simp [AH.bare, AH.get, T.get] at gj
  frz b c hb := by
    simp only [stillR] at hb
    split at hb
    · rename_i c' e fz hc
      cases hb
      exact ⟨c, e, fz, hc, Nat.le_refl _, fun _ _ => rfl⟩
    · cases hb
  icy k o s n hk := by simp [AH.bare, AH.get, T.get] at hk
  sep := ⟨fun _ _ => rfl, fun k n hk hn => by
    simp only [stillR] at hk
    split at hk
    · cases hk; rfl
    · cases hk⟩

/-- the package-level variables are rows -/
def varsB (P : Program) : Bool := (List.range P.globals.size).all fun g => (((begin P (fun _ _ => 0) default).world.heap[g]?).bind Obj.row?).isSome

theorem vars_rows {P : Program} {w : World} (hv : varsB P = true) (hs : w.ShapedOpen P) : ∀ g, g < P.globals.size → ∃ c e, w.heap[g]? = some (.cells c e) := by
  intro g hg
  have h1 := List.all_eq_true.1 hv g (List.mem_range.2 hg)
  obtain ⟨x, hx⟩ := Option.isSome_iff_exists.1 h1
  obtain ⟨zero, t⟩ := x
  obtain ⟨cs, h2, _⟩ := hs.1 g zero t hg hx
  exact ⟨cs, t, h2⟩

theorem vars_size {P : Program} {w : World} (hv : ∀ g, g < P.globals.size → ∃ c e, w.heap[g]? = some (.cells c e)) : P.globals.size ≤ w.heap.size := by
  cases hn : P.globals.size with
  | zero => exact Nat.zero_le _
  | succ n =>
    obtain ⟨c, e, h⟩ := hv n (by omega)
    have := (Array.getElem?_eq_some_iff.1 h).1
    omega

theorem below_of_ext {P : Program} {w w' : World} {E' : Ren} (x : Ext (stillR P w) w E' w') (hv : ∀ g, g < P.globals.size → ∃ c e, w.heap[g]? = some (.cells c e)) : RowKit.Below w.heap.size w w' where
  os := x.os
  tape := x.tape
  output := x.output
  size := x.size
  block k hk := by
    by_cases hc : ∃ c e fz, w.heap[k]? = some (.cells c e fz)
    · obtain ⟨c, e, fz, hc⟩ := hc
      exact x.ice k (by simp [stillR, hc])
    · refine x.frame k hk fun j hj => ?_
      simp only [stillR] at hj
      split at hj
      · rename_i hlt
        cases hj
        obtain ⟨c, e, h⟩ := hv _ hlt
        exact hc ⟨c, e, _, h⟩
      · cases hj

section
variable {H : Type} {E₀ : TypeId × Value → H} {P : Program} {w : World} {sp : Nat → Bool} {held : Bool} {B : DataW H → Nat} {BA : List (DataW H) → Nat}

/-- one argument -/
theorem open_arg (hB : Bulky B BA) (ty : Ty) {t : TypeId} {v : Value} {d : DataW H} {ps : List MemPlace} {r : Reach} {b0 : Nat} (ht : ty.has P none t = true) (hval : Value.okWide P w r b0 t v) (hd : DataW.Trod E₀ P w 0 sp held t v d ps) :
    ∃ x : ty.T, ty.WF x ∧ RV (stillR P w) (ty.val x) v ∧ ty.bulk x ≤ B d := by
  obtain ⟨fuel, hd⟩ := hd
  obtain ⟨x, h1, h2, h3⟩ := (open_ty (P := P) (w := w) (E₀ := E₀) (sp := sp) (held := held) hB ty).1 t fuel v.cells.toList (d, ps) ht hd
  refine ⟨x, h1, ?_, h3⟩
  have aggc : (∃ cs, v = .agg cs) → RV (stillR P w) (.agg (ty.enc x).toArray) v := by
    rintro ⟨cs, rfl⟩
    have := h2.ra
    exact .agg this.1 this.2
  have onec : ∀ u, ty.enc x = [u] → (∀ cs, v ≠ .agg cs) → RV (stillR P w) u v := by
    intro u hu hn
    rw [hu] at h2
    have hc : v.cells.toList = [v] := by cases v <;> first | rfl | exact absurd rfl (hn _)
    rw [hc] at h2
    cases h2 with
    | cons h _ => exact h
  cases ty with
  | int k =>
    simp only [Ty.has] at ht
    split at ht
    · rename_i k' hu
      obtain ⟨n, rfl⟩ := okWide_int hu hval
      exact onec _ rfl fun cs e => by cases e
    · cases ht
  | bool =>
    simp only [Ty.has] at ht
    split at ht
    · rename_i hu
      obtain ⟨n, rfl⟩ := okWide_bool hu hval
      exact onec _ rfl fun cs e => by cases e
    · cases ht
  | str =>
    simp only [Ty.has] at ht
    split at ht
    · rename_i hu
      obtain ⟨n, rfl⟩ := okWide_string hu hval
      exact onec _ rfl fun cs e => by cases e
    · cases ht
  | slice e =>
    simp only [Ty.has] at ht
    split at ht
    · rename_i e' hu
      obtain ⟨a, len, cap, rfl⟩ := okWide_slice hu hval
      cases x with
      | none => exact onec _ rfl fun cs e => by cases e
      | some l => exact onec _ rfl fun cs e => by cases e
    · cases ht
  | arr n e =>
    simp only [Ty.has] at ht
    split at ht
    · rename_i m e' hu
      unfold Value.okWide at hval
      rw [hu] at hval
      obtain ⟨cs, hc, _⟩ := hval
      exact aggc ⟨cs, hc⟩
    · cases ht
  | nil =>
    simp only [Ty.has] at ht
    split at ht
    · rename_i fs hu
      obtain ⟨cs, hc, _⟩ := okWide_struct hu hval
      exact aggc ⟨cs, hc⟩
    · cases ht
  | cons a r =>
    simp only [Ty.has] at ht
    split at ht
    · rename_i fs hu
      obtain ⟨cs, hc, _⟩ := okWide_struct hu hval
      exact aggc ⟨cs, hc⟩
    · cases ht

end

end Go.Ab
