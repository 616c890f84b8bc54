/-
  ABSTRACT HEAPS: an evaluator of the program's code over a heap of one's own, and that what it says is so.
-/
import Derived.Test.YtconhcamgebcaaaGreatDoorAbB
import Derived.RecoverIn
import Derived.RangeFuncNested
import Derived.KernelRfl
import Derived.IntWalk
/- AbHoare -/
namespace Go.Ab
set_option linter.unusedVariables false
set_option linter.unusedSimpArgs false

/-- how a call ends -/
inductive Res where
  | ret (v : Value)
  | pan (v : Value)

/-- how code ends -/
inductive HX where
  | normal
  | exit (id : Nat)
  | goto (l : Nat)
  | ret
  | panic (v : Value)

def HX.rel (E : Ren) : HX → Exit → Prop
  | .normal, .normal => True
  | .exit i, .exit j => i = j
  | .goto i, .goto j => i = j
  | .ret, .ret => True
  | .panic v, .panic chain => ∃ v', chain = [{ v := v', recovered := false }] ∧ RV E v v'
  | _, _ => False

def Res.rel (E : Ren) : Res → Ending → Prop
  | .ret v, .returned v' => RV E v v'
  | .pan v, .panicked chain => ∃ v', chain = [{ v := v', recovered := false }] ∧ RV E v v'
  | _, _ => False

/-- whatever a call may come to in the end, of it Q holds -/
def HC (P : Program) (f : FuncId) (args : Array Value) (h : AH) (Q : Res → AH → Prop) : Prop := ∀ E w args', RW P E h w → RA E args args' →
  Calls P f args' w fun e w' => ∃ E' r h', Res.rel E' r e ∧ RW P E' h' w' ∧ Ext E w E' w' ∧ Q r h'

theorem HC.mono {P : Program} {f : FuncId} {args : Array Value} {h : AH} {Q R : Res → AH → Prop} (a : HC P f args h Q) (hr : ∀ r h', Q r h' → R r h') : HC P f args h R :=
  fun E w args' r ra => (a E w args' r ra).mono fun e w' ⟨E', v, h', e1, e2, e3, e4⟩ => ⟨E', v, h', e1, e2, e3, hr v h' e4⟩

/-- the call returns just this -/
def Ex (P : Program) (f : FuncId) (args : Array Value) (h : AH) (v : Value) (h' : AH) : Prop := HC P f args h fun r g => r = .ret v ∧ g = h'

theorem HC.of_HF {P : Program} {f : FuncId} {args : Array Value} {h : AH} {Q : Value → AH → Prop} (a : HF P f args h Q) : HC P f args h fun r g => ∃ v, r = .ret v ∧ Q v g :=
  fun E w args' r ra => (a E w args' r ra).mono fun e w' ⟨E', v, v', h', e1, e2, e3, e4, e5⟩ => ⟨E', .ret v, h', by subst e1; exact e4, e2, e3, v, rfl, e5⟩

theorem HC.to_HF {P : Program} {f : FuncId} {args : Array Value} {h : AH} {Q : Value → AH → Prop} (a : HC P f args h fun r g => ∃ v, r = .ret v ∧ Q v g) : HF P f args h Q :=
  fun E w args' r ra => (a E w args' r ra).mono fun e w' ⟨E', r', h', e1, e2, e3, v, e4, e5⟩ => by
    subst e4
    cases e with
    | returned v' => exact ⟨E', v, v', h', rfl, e2, e3, e1, e5⟩
    | _ => cases e1

theorem Ex.of_fnA {P : Program} (n : Nat) {f : FuncId} {args : Array Value} {h h' : AH} {v : Value} {q : Bool} (hh : fnA P n f args h = some (v, q, h')) : Ex P f args h v h' :=
  (HC.of_HF (HF.of_fnA n hh)).mono fun r g ⟨u, e1, e2, e3⟩ => ⟨by rw [e1, e2], e3⟩

/-- the mark that a range over a function leaves among the deferred calls -/
def markOf (n : Nat) : Deferred := { target := .collected n, args := #[] }

/-- deferred calls: functions that are known, and marks -/
inductive XL (E : Ren) : List Value → List Deferred → List Nat → Prop
  | nil : XL E [] [] []
  | mark {dfs : List Value} {ds : List Deferred} {ns : List Nat} (n : Nat) (h : XL E dfs ds ns) : XL E dfs (markOf n :: ds) (n :: ns)
  | fn {dfs : List Value} {ds : List Deferred} {ns : List Nat} {v : Value} {f : Fn} {first cap : Array Value} (hv : RV E v (.func f first cap)) (h : XL E dfs ds ns) : XL E (v :: dfs) ({ target := .fn f cap, args := first } :: ds) ns

theorem XL.mono {E E' : Ren} (le : E.Le E') {dfs : List Value} {ds : List Deferred} {ns : List Nat} (h : XL E dfs ds ns) : XL E' dfs ds ns := by
  induction h with
  | nil => exact .nil
  | mark n _ ih => exact .mark n ih
  | fn hv _ ih => exact .fn (hv.mono le) ih

theorem XL.inj {E E' : Ren} {dfs dfs' : List Value} {ds : List Deferred} {ns ns' : List Nat} (h : XL E dfs ds ns) (h' : XL E' dfs' ds ns') : ns = ns' := by
  induction h generalizing dfs' ns' with
  | nil => cases h'; rfl
  | mark n _ ih =>
    generalize hd : markOf n :: _ = ds' at h'
    cases h' with
    | nil => cases hd
    | mark m h' =>
      injection hd with h1 h2
      subst h2
      have : n = m := by injection h1 with h1; injection h1
      rw [this, ih h']
    | fn hv h' => injection hd with h1; injection h1 with h1; cases h1
  | fn hv _ ih =>
    generalize hd : _ :: _ = ds' at h'
    cases h' with
    | nil => cases hd
    | mark m h' => injection hd with h1; injection h1 with h1; cases h1
    | fn hv' h' =>
      injection hd with h1 h2
      subst h2
      exact ih h'

/-- the deferred calls of an activation: those that are known, and marks of blocks that hold no call, at B or above -/
def XD (B : Nat) (E : Ren) (w : World) (dfs : List Value) (ds : List Deferred) : Prop :=
  B ≤ w.heap.size ∧ ∃ ns : List Nat, XL E dfs ds ns ∧ ns.Nodup ∧ ∀ n ∈ ns, B ≤ n ∧ w.heap[n]? = some (.deferred (some [])) ∧ ∀ k, E.at_ k ≠ some n

theorem XD.nil (E : Ren) (w : World) : XD w.heap.size E w [] [] := ⟨Nat.le_refl _, [], .nil, List.nodup_nil, fun n h => by cases h⟩

theorem XD.ext {B : Nat} {E E' : Ren} {w w' : World} {dfs : List Value} {ds : List Deferred} (h : XD B E w dfs ds) (x : Ext E w E' w') : XD B E' w' dfs ds := by
  obtain ⟨h0, ns, h1, h2, h3⟩ := h
  refine ⟨Nat.le_trans h0 x.size, ns, h1.mono x.le, h2, fun n hn => ?_⟩
  obtain ⟨g1, g2, g3⟩ := h3 n hn
  have hlt := (Array.getElem?_eq_some_iff.1 g2).1
  refine ⟨g1, by rw [x.frame n hlt g3]; exact g2, fun k hk => ?_⟩
  rcases x.range k n hk with ⟨j, hj⟩ | hj
  · exact g3 j hj
  · omega

theorem XD.fn {B : Nat} {E : Ren} {w : World} {dfs : List Value} {ds : List Deferred} (h : XD B E w dfs ds) {v : Value} {f : Fn} {first cap : Array Value} (hv : RV E v (.func f first cap)) :
    XD B E w (v :: dfs) ({ target := .fn f cap, args := first } :: ds) := by
  obtain ⟨h0, ns, h1, h2, h3⟩ := h
  exact ⟨h0, ns, .fn hv h1, h2, h3⟩

/-- the loop in a round of which code runs, and its record in the world -/
def RD (E : Ren) : Option Nat → Option Nat → Prop
  | none, none => True
  | some k, some l => E.at_ k = some l
  | _, _ => False

theorem RD.mono {E E' : Ren} (le : E.Le E') {a b : Option Nat} (h : RD E a b) : RD E' a b := by
  cases a <;> cases b <;> first
    | exact h
    | exact le.at_ _ _ h

/-- an activation, and what it is in the world -/
structure RX (B : Nat) (ro : Option Nat) (E : Ren) (w : World) (a : AA) (x : Act) : Prop where
  rt : RT E a x.tmps
  rd : RD E a.rnd.loop ro
  xd : XD B E w a.rnd.dfs x.defers

theorem RX.next {B : Nat} {ro : Option Nat} {E E' : Ren} {w w' : World} {a a' : AA} {x y : Act} (h : RX B ro E w a x) (e : Ext E w E' w') (rt : RT E' a' y.tmps) (hd : y.defers = x.defers) (hr : a'.rnd = a.rnd) : RX B ro E' w' a' y :=
  ⟨rt, by rw [hr]; exact h.rd.mono e.le, by rw [hd, hr]; exact h.xd.ext e⟩

theorem AA.put_rnd (a : AA) (d : Option Tmp) (v : Value) : (a.put d v).rnd = a.rnd := by
  unfold AA.put
  split
  · split <;> rfl
  · rfl

theorem AA.keep_rnd (a : AA) : ∀ l, (a.keep l).rnd = a.rnd := by
  intro l
  induction l with
  | nil => rfl
  | cons t l ih =>
    simp only [AA.keep]
    split
    · rfl
    · exact ih

theorem RX.keep {B : Nat} {ro : Option Nat} {E : Ren} {w : World} {a : AA} {x : Act} (h : RX B ro E w a x) (l : List Nat) : RX B ro E w (a.keep l) x :=
  ⟨h.rt.keep l, by rw [AA.keep_rnd]; exact h.rd, by rw [AA.keep_rnd]; exact h.xd⟩

/-- behind code -/
def HPost (P : Program) (B : Nat) (ro : Option Nat) (E : Ren) (w : World) (Q : HX → AA → AH → Prop) (e : Exit) (y : Act) (w' : World) : Prop :=
  ∃ x a' h' E', HX.rel E' x e ∧ RW P E' h' w' ∧ Ext E w E' w' ∧ RX B ro E' w' a' y ∧ Q x a' h'

theorem HPost.ext {P : Program} {B : Nat} {ro : Option Nat} {E E₁ : Ren} {w w₁ : World} {Q : HX → AA → AH → Prop} (x : Ext E w E₁ w₁) {e : Exit} {y : Act} {w' : World} (h : HPost P B ro E₁ w₁ Q e y w') : HPost P B ro E w Q e y w' := by
  obtain ⟨hx, a', h', E', h1, h2, h3, h4, h6⟩ := h
  exact ⟨hx, a', h', E', h1, h2, x.trans h3, h4, h6⟩

theorem HPost.mono {P : Program} {B : Nat} {ro : Option Nat} {E : Ren} {w : World} {Q R : HX → AA → AH → Prop} (hr : ∀ e a h, Q e a h → R e a h) {e : Exit} {y : Act} {w' : World} (h : HPost P B ro E w Q e y w') : HPost P B ro E w R e y w' := by
  obtain ⟨hx, a', h', E', h1, h2, h3, h4, h6⟩ := h
  exact ⟨hx, a', h', E', h1, h2, h3, h4, hr _ _ _ h6⟩

def HW (P : Program) (c : Code) (a : AA) (h : AH) (Q : HX → AA → AH → Prop) : Prop := ∀ B ro E w x, RW P E h w → RX B ro E w a x → c.wpR ro P (HPost P B ro E w Q) x w

/-- the rounds of a loop -/
def LoopW (ro : Option Nat) (P : Program) (c : Code) (Q : Exit → Act → World → Prop) (a : Act) (w : World) : Prop :=
  ∀ (b : Frame) (k : List Item) (cs : List Frame), b.roundOf = (Fr ro).round → ∃ e a' w', Q e a' w' ∧ ArrivesIn (Machine.fenced P (Fr ro)) P (lone (b.atR a (.code c :: .inLoop c :: k)) cs w) b k cs e a' w'

theorem fr_calm {ro : Option Nat} {P : Program} {fr : Frame} {cs : List Frame} {w : World} (ha : fr.about P w = none) : (lone fr cs w).fenced P (Fr ro) := fenced_calm (n := 0) (Fr_fn ro _) (Fr_room ro _) ha

theorem LoopW.round {ro : Option Nat} {P : Program} {c : Code} {Q : Exit → Act → World → Prop} {a : Act} {w : World} (h : c.wpR ro P (Exit.then (LoopW ro P c Q) Q) a w) : LoopW ro P c Q a w := by
  intro b k cs hro
  obtain ⟨e, a₁, w₁, hq, harr⟩ := h b (.inLoop c :: k) cs hro (Fr_fn ro _) (Fr_room ro _)
  cases e with
  | normal =>
    obtain ⟨e₂, a₂, w₂, hq₂, harr₂⟩ := hq b k cs hro
    exact ⟨e₂, a₂, w₂, hq₂, .of_steps (StepsIn.trans harr (.one (fr_calm rfl) stepR_inLoop)) harr₂⟩
  | exit id => exact ⟨_, a₁, w₁, hq, .pass (x := .inLoop c) rfl (fun _ _ => .inl (by simp)) harr⟩
  | goto l => exact ⟨_, a₁, w₁, hq, .pass (x := .inLoop c) rfl (fun _ _ => .inl (by simp)) harr⟩
  | ret => exact ⟨_, a₁, w₁, hq, .pass (x := .inLoop c) rfl (fun _ _ => .inl (by simp)) harr⟩
  | panic ch => exact ⟨_, a₁, w₁, hq, .pass (x := .inLoop c) rfl (fun _ _ => .inl (by simp)) harr⟩
  | outgrown => exact ⟨_, a₁, w₁, hq, .pass (x := .inLoop c) rfl (fun _ _ => .inl (by simp)) harr⟩

theorem LoopW.wp {ro : Option Nat} {P : Program} {c : Code} {Q : Exit → Act → World → Prop} {a : Act} {w : World} (h : LoopW ro P c Q a w) : (Code.loop c).wpR ro P Q a w := by
  intro b k cs hro _ _
  obtain ⟨e, a', w', hq, harr⟩ := h b k cs hro
  exact ⟨e, a', w', hq, .of_steps (.one (fr_calm rfl) stepR_loop) harr⟩

/-- code d within the scope of c -/
def ScopeW (ro : Option Nat) (P : Program) (c d : Code) (Q : Exit → Act → World → Prop) (a : Act) (w : World) : Prop :=
  ∀ (b : Frame) (k : List Item) (cs : List Frame), b.roundOf = (Fr ro).round → ∃ e a' w', Q e a' w' ∧ ArrivesIn (Machine.fenced P (Fr ro)) P (lone (b.atR a (.code d :: .inScope c :: k)) cs w) b k cs e a' w'

/-- a jump within a scope goes on behind its label -/
def inScope (ro : Option Nat) (P : Program) (c : Code) (Q : Exit → Act → World → Prop) : Exit → Act → World → Prop
  | .goto l, a, w => ∃ rest, findLabel c l = some rest ∧ ScopeW ro P c rest Q a w
  | e, a, w => Q e a w

theorem ScopeW.run {ro : Option Nat} {P : Program} {c d : Code} {Q : Exit → Act → World → Prop} {a : Act} {w : World} (h : d.wpR ro P (inScope ro P c Q) a w) : ScopeW ro P c d Q a w := by
  intro b k cs hro
  obtain ⟨e, a₁, w₁, hq, harr⟩ := h b (.inScope c :: k) cs hro (Fr_fn ro _) (Fr_room ro _)
  cases e with
  | normal => exact ⟨.normal, a₁, w₁, hq, StepsIn.trans harr (.one (fr_calm rfl) stepR_inScope)⟩
  | exit id => exact ⟨.exit id, a₁, w₁, hq, fun k' hk => harr.1 k' (by simp [exitTo, hk]), fun hr hk => by
      obtain ⟨k₁, g1, g2⟩ := harr.2 hr (by simp [exitTo, hk])
      exact ⟨k₁, g1, g2⟩⟩
  | goto l =>
    obtain ⟨rest, hf, hs⟩ := hq
    obtain ⟨e₂, a₂, w₂, hq₂, harr₂⟩ := hs b k cs hro
    have hg : gotoIn l (.inScope c :: k) = some (.code rest :: .inScope c :: k) := by simp [gotoIn, hf]
    exact ⟨e₂, a₂, w₂, hq₂, .of_steps (harr.1 _ hg) harr₂⟩
  | ret => exact ⟨_, a₁, w₁, hq, harr⟩
  | panic ch => exact ⟨_, a₁, w₁, hq, harr⟩
  | outgrown => exact ⟨_, a₁, w₁, hq, harr⟩

theorem ScopeW.wp {ro : Option Nat} {P : Program} {c : Code} {Q : Exit → Act → World → Prop} {a : Act} {w : World} (h : ScopeW ro P c c Q a w) : (Code.scope c).wpR ro P Q a w := by
  intro b k cs hro _ _
  obtain ⟨e, a', w', hq, harr⟩ := h b k cs hro
  exact ⟨e, a', w', hq, .of_steps (.one (fr_calm rfl) stepR_scope) harr⟩

/-- a loop, ahead of a round -/
def HL (P : Program) (c : Code) (a : AA) (h : AH) (Q : HX → AA → AH → Prop) : Prop := ∀ B ro E w x, RW P E h w → RX B ro E w a x → LoopW ro P c (HPost P B ro E w Q) x w

/-- code within a scope -/
def HS (P : Program) (c d : Code) (a : AA) (h : AH) (Q : HX → AA → AH → Prop) : Prop := ∀ B ro E w x, RW P E h w → RX B ro E w a x → ScopeW ro P c d (HPost P B ro E w Q) x w

/-- what follows in a row -/
def seqK (K : AA → AH → Prop) (Q : HX → AA → AH → Prop) : HX → AA → AH → Prop
  | .normal, a, h => K a h
  | e, a, h => Q e a h

def blockK (id : Nat) (Q : HX → AA → AH → Prop) : HX → AA → AH → Prop
  | .exit j, a, h => if j = id then Q .normal a h else Q (.exit j) a h
  | e, a, h => Q e a h

def scopeK (K : Nat → AA → AH → Prop) (Q : HX → AA → AH → Prop) : HX → AA → AH → Prop
  | .goto l, a, h => K l a h
  | e, a, h => Q e a h

theorem HL.round {P : Program} {c : Code} {a : AA} {h : AH} {Q : HX → AA → AH → Prop} (hh : HW P c a h (seqK (fun a h => HL P c a h Q) Q)) : HL P c a h Q := by
  intro B ro E w x r rx
  refine LoopW.round (wpIn_mono (hh B ro E w x r rx) ?_)
  rintro e y w' ⟨hx, a', h', E', h1, h2, h3, h4, h6⟩
  cases hx with
  | normal =>
    cases e with
    | normal =>
      intro b k cs hro
      obtain ⟨e2, a2, w2, q2, arr⟩ := h6 B ro E' w' y h2 h4 b k cs hro
      exact ⟨e2, a2, w2, q2.ext h3, arr⟩
    | _ => cases h1
  | _ =>
    cases e <;> first
      | (cases h1; done)
      | exact ⟨_, a', h', E', h1, h2, h3, h4, h6⟩

theorem HS.run {P : Program} {c d : Code} {a : AA} {h : AH} {Q : HX → AA → AH → Prop}
    (hh : HW P d a h (scopeK (fun l a h => match findLabel c l with | some rest => HS P c rest a h Q | none => False) Q)) : HS P c d a h Q := by
  intro B ro E w x r rx
  refine ScopeW.run (wpIn_mono (hh B ro E w x r rx) ?_)
  rintro e y w' ⟨hx, a', h', E', h1, h2, h3, h4, h6⟩
  cases hx with
  | goto l =>
    cases e with
    | goto m =>
      have h1' : l = m := h1
      subst h1'
      simp only [scopeK] at h6
      split at h6
      · rename_i rest hf
        refine ⟨rest, hf, fun b k cs hro => ?_⟩
        obtain ⟨e2, a2, w2, q2, arr⟩ := h6 B ro E' w' y h2 h4 b k cs hro
        exact ⟨e2, a2, w2, q2.ext h3, arr⟩
      · cases h6
    | _ => cases h1
  | _ =>
    cases e <;> first
      | (cases h1; done)
      | exact ⟨_, a', h', E', h1, h2, h3, h4, h6⟩

theorem HL.keep {P : Program} {c : Code} {a : AA} {h : AH} {Q : HX → AA → AH → Prop} (l : List Nat) (hh : HL P c (a.keep l) h Q) : HL P c a h Q :=
  fun B ro E w x r rx => hh B ro E w x r (rx.keep l)
theorem HS.keep {P : Program} {c d : Code} {a : AA} {h : AH} {Q : HX → AA → AH → Prop} (l : List Nat) (hh : HS P c d (a.keep l) h Q) : HS P c d a h Q :=
  fun B ro E w x r rx => hh B ro E w x r (rx.keep l)
theorem HW.keep {P : Program} {c : Code} {a : AA} {h : AH} {Q : HX → AA → AH → Prop} (l : List Nat) (hh : HW P c (a.keep l) h Q) : HW P c a h Q :=
  fun B ro E w x r rx => hh B ro E w x r (rx.keep l)

/-- the record of a loop -/
def loopAt (h : AH) (k : Nat) : Option (Loop × Option Nat) := match h.get k with
  | some (.loop r, s) => some (r, s)
  | _ => none

def tmsU : Nat → List Value → T Value → T Value
  | _, [], t => t
  | k, v :: l, t => tmsU (k + 1) l (match unknw v with | some u => t.put (k + 1) (k + 1) (some u) | none => t)

/-- the temporaries in a round -/
def roundA (r : Loop) (k : Nat) (args : List Value) : AA :=
  let l := (r.params.zip (args.map knw).toArray).foldl (fun tmps (t, a) => tmps.setIfInBounds t a) r.tmps
  ⟨tmsU 0 l.toList .leaf, l.size, { loop := some k }⟩

/-- if there is one, of it k holds -/
def bq {α : Type} (o : Option α) (k : α → Prop) : Prop := match o with
  | some x => k x
  | none => False

@[simp] theorem bq_some {α : Type} (x : α) (k : α → Prop) : bq (some x) k = k x := propext (Iff.intro (fun h => h) fun h => h)
theorem bq_eq {α : Type} {o : Option α} {k : α → Prop} (h : bq o k) : ∃ x, o = some x ∧ k x := by
  cases o with
  | none => cases h
  | some x => exact ⟨x, rfl, h⟩
theorem bq_of {α : Type} {o : Option α} {x : α} {k : α → Prop} (e : o = some x) (h : k x) : bq o k := by rw [e]; exact h

/-- the same word for operands (a word of its own: the kernel shall not hold an operand against an operation) -/
def oq {α : Type} (o : Option α) (k : α → Prop) : Prop := match o with
  | some x => k x
  | none => bq (none : Option α) k

@[simp] theorem oq_some {α : Type} (x : α) (k : α → Prop) : oq (some x) k = k x := rfl
theorem oq_eq {α : Type} {o : Option α} {k : α → Prop} (h : oq o k) : ∃ x, o = some x ∧ k x := by
  cases o with
  | none => cases h
  | some x => exact ⟨x, rfl, h⟩

def resK (k pk : Value → AH → Prop) : Res → AH → Prop
  | .ret v, h => k v h
  | .pan v, h => pk v h

theorem HC.exact {P : Program} {f : FuncId} {args : Array Value} {h h' : AH} {v : Value} {k pk : Value → AH → Prop} (a : Ex P f args h v h') (hk : k v h') : HC P f args h (resK k pk) :=
  a.mono fun r g ⟨e1, e2⟩ => by subst e1 e2; exact hk

def pickV (c a b : Value) : Option Value := match c with
  | .bool t => some (if t then a else b)
  | _ => none
def nilV (P : Program) (v : Value) : Option Value := if nilChecked v || nilMeth P v then some v else none
def unV (P : Program) (op : UnOp) (a : Value) : Option Value := if plain a then flatV P (Op.unary op a) else none
def sliceV (P : Program) (h : AH) (t : TypeId) (v : Value) (l g : Option Value) : Option Value := match v with
  | .string s => if l.all plain && g.all plain then flatV P (Instr.sliceAt t (.string s) l g none) else none
  | _ => opSlice P h t v l g
def binV (P : Program) (op : BinOp) (t : TypeId) (x y : Operand) (a b : Value) (h : AH) : Option Value := match absBin P op t x y a b h with
  | some (.val v _) => some v
  | _ => none
def convV (P : Program) (s d : TypeId) (a : Value) (h : AH) : Option (Value × AH) := match absConvert P s d a h with
  | some (.val v h') => some (v, h')
  | _ => none
def externV (P : Program) (f : FuncId) (args : List Value) : Option Value :=
  if args.all (plainN 12) then match flat P (callFunc f args.toArray) with
    | some (.value v) => if plain v then some v else none
    | _ => none
  else none

def enterP (P : Program) (f : FuncId) (args : List Value) (h : AH) (k pk : Value → AH → Prop) : Prop :=
  match P.funcs[f]? with
  | some fn => if fn.name == "runtime.NumGoroutine" then False else if fn.body.isNone then (if isExt fn then bq (extO fn.name args h) fun r => k r.1 r.2 else bq (externV P f args) fun v => k v h) else HC P f args.toArray h (resK k pk)
  | none => False

/-- at a round's end -/
def endRd (K : Value → AH → Prop) (k : Nat) (j : Option Code) (h : AH) : Prop :=
  bq (loopAt h k) fun r => K (.bool j.isNone) (h.put k (some (.loop { r.1 with state := if j.isNone then .ready else .done, pending := j }, r.2)))

def roundK (k : Nat) (K : Value → AH → Prop) : HX → AA → AH → Prop
  | .normal, _, h => endRd K k none h
  | .ret, _, h => endRd K k (some .ret) h
  | .exit i, _, h => endRd K k (some (.exit i)) h
  | .goto l, _, h => endRd K k (some (.goto l)) h
  | .panic _, _, _ => False

/-- a round of the loop k -/
def roundP (P : Program) (k : Nat) (args : List Value) (h : AH) (K : Value → AH → Prop) : Prop :=
  bq (loopAt h k) fun r => args.length = r.1.params.size ∧ HW P r.1.assign (roundA r.1 k args) h (seqK (fun a h => bq (loopAt h k) fun q => q.1.state = .ready ∧
    HW P r.1.body a (h.put k (some (.loop { q.1 with state := .busy }, q.2))) (roundK k K)) fun _ _ _ => False)

def callP (P : Program) (fv : Value) (args : List Value) (h : AH) (k pk : Value → AH → Prop) : Prop := match fv with
  | .func (.func g) first captured => enterP P g (first.toList ++ args ++ captured.toList) h k pk
  | .chan (some l) => roundP P l args h k
  | _ => False

def invokeP (P : Program) (rv : Value) (name : String) (args : List Value) (h : AH) (k pk : Value → AH → Prop) : Prop := match rv with
  | .iface t v => match methodOf P t v name with
    | some (g, r) => enterP P g (r :: args) h k pk
    | none => False
  | _ => False

def panicP (v : Value) (h : AH) (pk : Value → AH → Prop) : Prop := match v with
  | .iface t u => pk (.iface t u) h
  | _ => False

def wpCall (P : Program) (ρ : Operand → Option Value) (c : Call) (ty : TypeId) (h : AH) (k pk : Value → AH → Prop) : Prop :=
  oq (listOf ρ c.args.toList) fun args => match c.callee with
    | .builtin .append => match args with
      | [s, x] => bq (opAppend P h c.argTypes s x) fun r => k r.1 r.2
      | _ => False
    | .builtin .copy => match args with
      | [s, x] => bq (opCopy P h c.argTypes s x) fun r => k r.1 r.2
      | _ => False
    | .builtin .len => match args, c.argTypes[0]? with
      | [x], some t => bq (opLen P h t x) fun v => k v h
      | _, _ => False
    | .builtin .delete => match args, c.argTypes[0]? with
      | [m, x], some t => bq (opDelete P h t m x) fun h' => k (.tuple #[]) h'
      | _, _ => False
    | .builtin .min => if args.all (plainN 12) then bq (flatV P (Builtin.min_ c.argTypes ty args.toArray)) fun v => k v h else False
    | .builtin .max => if args.all (plainN 12) then bq (flatV P (Builtin.max_ c.argTypes ty args.toArray)) fun v => k v h else False
    | .builtin .real => if args.all (plainN 12) then bq (flatV P (Builtin.real_ c.argTypes ty args.toArray)) fun v => k v h else False
    | .builtin .imag => if args.all (plainN 12) then bq (flatV P (Builtin.imag_ c.argTypes ty args.toArray)) fun v => k v h else False
    | .builtin .complex => if args.all (plainN 12) then bq (flatV P (Builtin.complex_ c.argTypes ty args.toArray)) fun v => k v h else False
    | .builtin .unsafeSliceData => match args with
      | [x] => bq (opSliceData x) fun v => k v h
      | _ => False
    | .builtin .unsafeString => match args, c.argTypes.toList with
      | [x, y], [t, _] => bq (opUString P h t x y) fun r => k r.1 r.2
      | _, _ => False
    | .builtin .clear => match args, c.argTypes[0]? with
      | [x], some t => bq (opClear P h t x) fun h' => k (.tuple #[]) h'
      | _, _ => False
    | .builtin _ => False
    | .value f => oq (ρ f) fun fv => callP P fv args h k pk
    | .invoke recv name => oq (ρ recv) fun rv => invokeP P rv name args h k pk

def wpOp (P : Program) (ρ : Operand → Option Value) (o : Oper) (h : AH) (k pk : Value → AH → Prop) : Prop :=
  match o.op with
  | .move x | .assign x => oq (ρ x) fun v => k v h
  | .pick c a b => oq (ρ c) fun cv => oq (ρ a) fun av => oq (ρ b) fun bv => bq (pickV cv av bv) fun v => k v h
  | .alloc e => bq (opAlloc P h e) fun r => k r.1 r.2
  | .box e x => oq (ρ x) fun v => k (opNew h e v.cells).1 (opNew h e v.cells).2
  | .build t parts => oq (partsOf ρ parts.toList) fun l => bq (opBuild P t l) fun v => k v h
  | .buildSlice t n parts => oq (partsOf ρ parts.toList) fun l => bq (opBuildSlice P h t n l) fun r => k r.1 r.2
  | .load t a => oq (ρ a) fun v => bq (opLoad P h t v) fun u => k u h
  | .store t a x => oq (ρ a) fun av => oq (ρ x) fun xv => bq (opStore P h t av xv) fun h' => k undef h'
  | .nilCheck x => oq (ρ x) fun v => bq (nilV P v) fun v => k v h
  | .binOp op t x y _ => oq (ρ x) fun a => oq (ρ y) fun b => bq (binV P op t x y a b h) fun v => k v h
  | .unOp op _ x => oq (ρ x) fun a => bq (unV P op a) fun v => k v h
  | .convert s d x => oq (ρ x) fun a => bq (convV P s d a h) fun r => k r.1 r.2
  | .makeInterface t x => oq (ρ x) fun a => bq (opMakeInterface P t a) fun v => k v h
  | .makeFunc (.func f) first captured => oq (listOf ρ first.toList) fun l => oq (listOf ρ captured.toList) fun m => k (.func (.func f) l.toArray m.toArray) h
  | .makeFunc (.method f) first captured => oq (listOf ρ first.toList) fun l => oq (listOf ρ captured.toList) fun m => k (.func (.method f) l.toArray m.toArray) h
  | .makeSlice t l c => oq (ρ l) fun a => oq (ρ c) fun b => bq (opMakeSlice P h t a b) fun r => k r.1 r.2
  | .slice t x lo hi none => oq (ρ x) fun v => oq (optOf ρ lo) fun l => oq (optOf ρ hi) fun g => bq (sliceV P h t v l g) fun v => k v h
  | .slice t x lo hi (some m) => oq (ρ x) fun v => oq (optOf ρ lo) fun l => oq (optOf ρ hi) fun g => oq (ρ m) fun m => bq (opSlice3 P h t v l g (some m)) fun v => k v h
  | .fieldAddr s x f => oq (ρ x) fun a => bq (opFieldAddr P s a f) fun v => k v h
  | .field s x f => oq (ρ x) fun a => bq (opField P s a f) fun v => k v h
  | .indexAddr t x i => oq (ρ x) fun a => oq (ρ i) fun b => bq (opIndexAddr P t a b) fun v => k v h
  | .index t x i => oq (ρ x) fun a => oq (ρ i) fun b => bq (opIndex P t a b) fun v => k v h
  | .typeAssert x st t ok => oq (ρ x) fun a => bq (opTypeAssert P a t ok) fun v => k v h
  | .extract t i => oq (ρ t) fun a => bq (opExtract a i) fun v => k v h
  | .call c => wpCall P ρ c o.type h k pk
  | .makeMap t none => k (opMakeMap h).1 (opMakeMap h).2
  | .lookup t x i ok => oq (ρ x) fun a => oq (ρ i) fun b => bq (opLookup P h t a b ok) fun v => k v h
  | .mapUpdate t m i x | .insert t m i x => oq (ρ m) fun a => oq (ρ i) fun b => oq (ρ x) fun c => bq (opMapUpdate P h t a b c) fun h' => k undef h'
  | .mapEntry t m i => oq (ρ m) fun a => oq (ρ i) fun b => bq (opMapEntry P h t a b) fun r => k r.1 r.2
  | .entryStore _ m i x => oq (ρ m) fun a => oq (ρ i) fun b => oq (ρ x) fun c => bq (opEntryStore h a b c) fun h' => k undef h'
  | .range t x => oq (ρ x) fun a => bq (opRange P h t a) fun r => k r.1 r.2
  | .next it s => oq (ρ it) fun a => nextP P h a s k
  | .entry it => oq (ρ it) fun a => bq (opEntry h a) fun v => k v h
  | .panic x => oq (ρ x) fun v => panicP v h pk
  | _ => False

/-- what an operation comes to, unless it panics or calls -/
def outK (P : Program) (out : Out) (k pk : Value → AH → Prop) : Prop := match out with
  | .val v h => k v h
  | .unit h => k undef h
  | .enter f args h => HC P f args h (resK k pk)

section
variable {P : Program} {ρ : Operand → Option Value} {h : AH} {k pk : Value → AH → Prop}

theorem enterP_abs {f : FuncId} {args : List Value} (hh : enterP P f args h k pk) : ∃ out, enterOf P f args h = some out ∧ outK P out k pk := by
  unfold enterP at hh
  unfold enterOf
  cases hf : P.funcs[f]? with
  | none => rw [hf] at hh; cases hh
  | some fn =>
    rw [hf] at hh
    simp only at hh ⊢
    split at hh
    · cases hh
    · rename_i hn
      rw [if_neg hn]
      split at hh
      · rename_i hb
        rw [if_pos hb]
        split at hh
        · rename_i hx
          rw [if_pos hx]
          obtain ⟨y, e, hk⟩ := bq_eq hh
          exact ⟨.val y.1 y.2, by simp only [e]; rfl, hk⟩
        rename_i hx
        rw [if_neg hx]
        obtain ⟨v, e, hk⟩ := bq_eq hh
        unfold externV at e
        split at e
        · rename_i hp
          rw [if_pos hp]
          split at e
          · rename_i u hu
            split at e
            · rename_i hpu
              cases e
              exact ⟨.val v h, by simp only [hu, hpu, if_true], hk⟩
            · cases e
          · cases e
        · cases e
      · rename_i hb
        rw [if_neg hb]
        exact ⟨_, rfl, hh⟩

theorem wpCall_abs {c : Call} {ty : TypeId} (hy : ∀ f l, c.callee = .value f → ρ f ≠ some (.chan (some l))) (hh : wpCall P ρ c ty h k pk) : ∃ out, absCall P ρ c ty h = some out ∧ outK P out k pk := by
  unfold wpCall at hh
  obtain ⟨args, ha, hh⟩ := oq_eq hh
  unfold absCall
  rw [ha]
  simp only
  cases hc : c.callee with
  | builtin b =>
    rw [hc] at hh
    cases b
    case append =>
      simp only at hh ⊢
      split at hh
      · obtain ⟨r, e, hk⟩ := bq_eq hh
        exact ⟨.val r.1 r.2, by simp only [e]; rfl, hk⟩
      · cases hh
    case copy =>
      simp only at hh ⊢
      split at hh
      · obtain ⟨r, e, hk⟩ := bq_eq hh
        exact ⟨.val r.1 r.2, by simp only [e]; rfl, hk⟩
      · cases hh
    case len =>
      simp only at hh ⊢
      split at hh
      · rename_i x t h0
        rw [h0]
        obtain ⟨r, e, hk⟩ := bq_eq hh
        exact ⟨.val r h, by simp only [e]; rfl, hk⟩
      · cases hh
    case delete =>
      simp only at hh ⊢
      split at hh
      · rename_i m x t h0
        rw [h0]
        obtain ⟨h', e, hk⟩ := bq_eq hh
        exact ⟨.val (.tuple #[]) h', by simp only [e], hk⟩
      · cases hh
    case min =>
      simp only at hh ⊢
      split at hh
      · rename_i hp
        rw [if_pos hp]
        obtain ⟨r, e, hk⟩ := bq_eq hh
        exact ⟨.val r h, by rw [e]; rfl, hk⟩
      · cases hh
    case max =>
      simp only at hh ⊢
      split at hh
      · rename_i hp
        rw [if_pos hp]
        obtain ⟨r, e, hk⟩ := bq_eq hh
        exact ⟨.val r h, by rw [e]; rfl, hk⟩
      · cases hh
    case real =>
      simp only at hh ⊢
      split at hh
      · rename_i hp
        rw [if_pos hp]
        obtain ⟨r, e, hk⟩ := bq_eq hh
        exact ⟨.val r h, by rw [e]; rfl, hk⟩
      · cases hh
    case imag =>
      simp only at hh ⊢
      split at hh
      · rename_i hp
        rw [if_pos hp]
        obtain ⟨r, e, hk⟩ := bq_eq hh
        exact ⟨.val r h, by rw [e]; rfl, hk⟩
      · cases hh
    case complex =>
      simp only at hh ⊢
      split at hh
      · rename_i hp
        rw [if_pos hp]
        obtain ⟨r, e, hk⟩ := bq_eq hh
        exact ⟨.val r h, by rw [e]; rfl, hk⟩
      · cases hh
    case unsafeSliceData =>
      simp only at hh ⊢
      split at hh
      · obtain ⟨r, e, hk⟩ := bq_eq hh
        exact ⟨.val r h, by simp only [e]; rfl, hk⟩
      · cases hh
    case unsafeString =>
      simp only at hh ⊢
      split at hh
      · rename_i x y t t2 h0
        rw [h0]
        obtain ⟨r, e, hk⟩ := bq_eq hh
        exact ⟨.val r.1 r.2, by simp only [e]; rfl, hk⟩
      · cases hh
    case clear =>
      simp only at hh ⊢
      split at hh
      · rename_i x t h0
        rw [h0]
        obtain ⟨h', e, hk⟩ := bq_eq hh
        exact ⟨.val (.tuple #[]) h', by simp only [e], hk⟩
      · cases hh
    all_goals (cases hh)
  | value f =>
    rw [hc] at hh
    simp only at hh ⊢
    obtain ⟨fv, e, hh⟩ := oq_eq hh
    rw [e]
    unfold callP at hh
    split at hh
    · exact enterP_abs hh
    · exact absurd e (hy f _ hc)
    · cases hh
  | invoke recv name =>
    rw [hc] at hh
    simp only at hh ⊢
    obtain ⟨rv, e, hh⟩ := oq_eq hh
    rw [e]
    unfold invokeP at hh
    split at hh
    · rename_i t v
      simp only
      cases hm : methodOf P t v name with
      | none => rw [hm] at hh; cases hh
      | some gr =>
        obtain ⟨g, r⟩ := gr
        rw [hm] at hh
        exact enterP_abs hh
    · cases hh

theorem wpOp_abs {o : Oper} (hnp : ∀ x, o.op ≠ .panic x) (hnn : ∀ it s, o.op ≠ .next it s) (hy : ∀ c f l, o.op = .call c → c.callee = .value f → ρ f ≠ some (.chan (some l))) (hh : wpOp P ρ o h k pk) : ∃ out, absOp P ρ o h = some out ∧ outK P out k pk := by
  unfold wpOp at hh
  unfold absOp
  cases ho : o.op with
  | move x => rw [ho] at hh; obtain ⟨v, e, hk⟩ := oq_eq hh; exact ⟨.val v h, by simp only; rw [e]; rfl, hk⟩
  | assign x => rw [ho] at hh; obtain ⟨v, e, hk⟩ := oq_eq hh; exact ⟨.val v h, by simp only; rw [e]; rfl, hk⟩
  | pick c a b =>
    rw [ho] at hh
    obtain ⟨cv, e1, hh⟩ := oq_eq hh
    obtain ⟨av, e2, hh⟩ := oq_eq hh
    obtain ⟨bv, e3, hh⟩ := oq_eq hh
    obtain ⟨v, e4, hk⟩ := bq_eq hh
    cases cv with
    | bool z =>
      have e5 : (if z then av else bv) = v := Option.some.inj e4
      subst e5
      refine ⟨.val (if z then av else bv) h, ?_, hk⟩
      simp only [e1]
      cases z
      · simp [e3, valH]
      · simp [e2, valH]
    | _ => cases e4
  | alloc e => rw [ho] at hh; obtain ⟨r, e, hk⟩ := bq_eq hh; exact ⟨.val r.1 r.2, by simp only; rw [e]; rfl, hk⟩
  | box e x => rw [ho] at hh; obtain ⟨v, e, hk⟩ := oq_eq hh; exact ⟨.val _ _, by simp only [e], hk⟩
  | build t parts => rw [ho] at hh; obtain ⟨l, e, hh⟩ := oq_eq hh; obtain ⟨v, e2, hk⟩ := bq_eq hh; exact ⟨.val v h, by simp only [e, e2]; rfl, hk⟩
  | buildSlice t n parts => rw [ho] at hh; obtain ⟨l, e, hh⟩ := oq_eq hh; obtain ⟨r, e2, hk⟩ := bq_eq hh; exact ⟨.val r.1 r.2, by simp only [e, e2]; rfl, hk⟩
  | load t x => rw [ho] at hh; obtain ⟨l, e, hh⟩ := oq_eq hh; obtain ⟨v, e2, hk⟩ := bq_eq hh; exact ⟨.val v h, by simp only [e, e2]; rfl, hk⟩
  | store t a x => rw [ho] at hh; obtain ⟨l, e, hh⟩ := oq_eq hh; obtain ⟨v, e2, hh⟩ := oq_eq hh; obtain ⟨h', e3, hk⟩ := bq_eq hh; exact ⟨.unit h', by simp only [e, e2, e3], hk⟩
  | nilCheck x =>
    rw [ho] at hh; obtain ⟨l, e, hh⟩ := oq_eq hh; obtain ⟨v, e2, hk⟩ := bq_eq hh
    unfold nilV at e2
    split at e2
    · rename_i hn; cases e2; exact ⟨.val l h, by simp only [e, hn, if_true], hk⟩
    · cases e2
  | binOp op t x y yt =>
    rw [ho] at hh; obtain ⟨l, e, hh⟩ := oq_eq hh; obtain ⟨v, e2, hh⟩ := oq_eq hh; obtain ⟨u, e3, hk⟩ := bq_eq hh
    unfold binV at e3
    split at e3
    · rename_i v' h' hb
      cases e3
      obtain ⟨z, hz⟩ := absBin_quiet hb
      cases hz
      exact ⟨.val u h, by simp only [e, e2, hb], hk⟩
    · cases e3
  | unOp op t x =>
    rw [ho] at hh; obtain ⟨l, e, hh⟩ := oq_eq hh; obtain ⟨v, e2, hk⟩ := bq_eq hh
    unfold unV at e2
    split at e2
    · rename_i hp; exact ⟨.val v h, by simp only [e, hp, if_true, e2]; rfl, hk⟩
    · cases e2
  | convert s d x =>
    rw [ho] at hh; obtain ⟨l, e, hh⟩ := oq_eq hh; obtain ⟨r, e2, hk⟩ := bq_eq hh
    unfold convV at e2
    split at e2
    · rename_i v' h' hc; cases e2; exact ⟨.val v' h', by simp only [e, hc], hk⟩
    · cases e2
  | makeInterface t x => rw [ho] at hh; obtain ⟨l, e, hh⟩ := oq_eq hh; obtain ⟨v, e2, hk⟩ := bq_eq hh; exact ⟨.val v h, by simp only [e, e2]; rfl, hk⟩
  | makeFunc fn l m =>
    rw [ho] at hh
    cases fn
    case func f => obtain ⟨l', e, hh⟩ := oq_eq hh; obtain ⟨m', e2, hk⟩ := oq_eq hh; exact ⟨.val _ h, by simp only [e, e2], hk⟩
    case method f => obtain ⟨l', e, hh⟩ := oq_eq hh; obtain ⟨m', e2, hk⟩ := oq_eq hh; exact ⟨.val _ h, by simp only [e, e2], hk⟩
    all_goals (cases hh)
  | makeSlice t l c => rw [ho] at hh; obtain ⟨l', e, hh⟩ := oq_eq hh; obtain ⟨v, e2, hh⟩ := oq_eq hh; obtain ⟨r, e3, hk⟩ := bq_eq hh; exact ⟨.val r.1 r.2, by simp only [e, e2, e3]; rfl, hk⟩
  | slice t x lo hi m =>
    rw [ho] at hh
    cases m with
    | some m => obtain ⟨v, e, hh⟩ := oq_eq hh; obtain ⟨l, e2, hh⟩ := oq_eq hh; obtain ⟨g, e3, hh⟩ := oq_eq hh; obtain ⟨m, e4, hh⟩ := oq_eq hh; obtain ⟨u, e5, hk⟩ := bq_eq hh; exact ⟨.val u h, by simp only [e, e2, e3, e4, e5]; rfl, hk⟩
    | none =>
      obtain ⟨v, e, hh⟩ := oq_eq hh; obtain ⟨l, e2, hh⟩ := oq_eq hh; obtain ⟨g, e3, hh⟩ := oq_eq hh; obtain ⟨u, e4, hk⟩ := bq_eq hh
      unfold sliceV at e4
      refine ⟨.val u h, ?_, hk⟩
      simp only [e, e2, e3]
      split at e4
      · rename_i s
        split at e4
        · rename_i hp; simp only [hp, if_true, e4]; rfl
        · cases e4
      · rename_i hns
        cases v <;> first
          | (exact absurd rfl (hns _))
          | (simp only [e4]; rfl)
  | fieldAddr s x f => rw [ho] at hh; obtain ⟨l, e, hh⟩ := oq_eq hh; obtain ⟨v, e2, hk⟩ := bq_eq hh; exact ⟨.val v h, by simp only [e, e2]; rfl, hk⟩
  | field s x f => rw [ho] at hh; obtain ⟨l, e, hh⟩ := oq_eq hh; obtain ⟨v, e2, hk⟩ := bq_eq hh; exact ⟨.val v h, by simp only [e, e2]; rfl, hk⟩
  | indexAddr t x i => rw [ho] at hh; obtain ⟨l, e, hh⟩ := oq_eq hh; obtain ⟨v, e2, hh⟩ := oq_eq hh; obtain ⟨u, e3, hk⟩ := bq_eq hh; exact ⟨.val u h, by simp only [e, e2, e3]; rfl, hk⟩
  | index t x i => rw [ho] at hh; obtain ⟨l, e, hh⟩ := oq_eq hh; obtain ⟨v, e2, hh⟩ := oq_eq hh; obtain ⟨u, e3, hk⟩ := bq_eq hh; exact ⟨.val u h, by simp only [e, e2, e3]; rfl, hk⟩
  | typeAssert x st t ok => rw [ho] at hh; obtain ⟨l, e, hh⟩ := oq_eq hh; obtain ⟨v, e2, hk⟩ := bq_eq hh; exact ⟨.val v h, by simp only [e, e2]; rfl, hk⟩
  | extract t i => rw [ho] at hh; obtain ⟨l, e, hh⟩ := oq_eq hh; obtain ⟨v, e2, hk⟩ := bq_eq hh; exact ⟨.val v h, by simp only [e, e2]; rfl, hk⟩
  | call c => rw [ho] at hh; exact wpCall_abs (fun f l e => hy c f l ho e) hh
  | makeMap t r =>
    rw [ho] at hh
    cases r with
    | none => exact ⟨.val _ _, rfl, hh⟩
    | some r => cases hh
  | lookup t x i ok => rw [ho] at hh; obtain ⟨l, e, hh⟩ := oq_eq hh; obtain ⟨v, e2, hh⟩ := oq_eq hh; obtain ⟨u, e3, hk⟩ := bq_eq hh; exact ⟨.val u h, by simp only [e, e2, e3]; rfl, hk⟩
  | mapUpdate t m i x => rw [ho] at hh; obtain ⟨l, e, hh⟩ := oq_eq hh; obtain ⟨v, e2, hh⟩ := oq_eq hh; obtain ⟨c, e3, hh⟩ := oq_eq hh; obtain ⟨h', e4, hk⟩ := bq_eq hh; exact ⟨.unit h', by simp only [e, e2, e3, e4], hk⟩
  | insert t m i x => rw [ho] at hh; obtain ⟨l, e, hh⟩ := oq_eq hh; obtain ⟨v, e2, hh⟩ := oq_eq hh; obtain ⟨c, e3, hh⟩ := oq_eq hh; obtain ⟨h', e4, hk⟩ := bq_eq hh; exact ⟨.unit h', by simp only [e, e2, e3, e4], hk⟩
  | mapEntry t m i => rw [ho] at hh; obtain ⟨l, e, hh⟩ := oq_eq hh; obtain ⟨v, e2, hh⟩ := oq_eq hh; obtain ⟨r, e3, hk⟩ := bq_eq hh; exact ⟨.val r.1 r.2, by simp only [e, e2, e3]; rfl, hk⟩
  | entryStore t m i x => rw [ho] at hh; obtain ⟨l, e, hh⟩ := oq_eq hh; obtain ⟨v, e2, hh⟩ := oq_eq hh; obtain ⟨c, e3, hh⟩ := oq_eq hh; obtain ⟨h', e4, hk⟩ := bq_eq hh; exact ⟨.unit h', by simp only [e, e2, e3, e4], hk⟩
  | range t x => rw [ho] at hh; obtain ⟨l, e, hh⟩ := oq_eq hh; obtain ⟨r, e2, hk⟩ := bq_eq hh; exact ⟨.val r.1 r.2, by simp only [e, e2]; rfl, hk⟩
  | next it s => exact absurd ho (hnn it s)
  | entry it => rw [ho] at hh; obtain ⟨l, e, hh⟩ := oq_eq hh; obtain ⟨v, e2, hk⟩ := bq_eq hh; exact ⟨.val v h, by simp only [e, e2]; rfl, hk⟩
  | panic x => exact absurd ho (hnp x)
  | _ => rw [ho] at hh; cases hh

end

end Go.Ab

/- AbHoare2 -/
namespace Go.Ab
set_option linter.unusedVariables false
set_option linter.unusedSimpArgs false

/-- an operation that runs only if what another yielded is so -/
inductive guardQ (x : Value) (want : Bool) (h : AH) (op : (Value → AH → Prop) → Prop) (k : Value → AH → Prop) : Prop
  | yes (e : x = .bool want) (hk : op k) : guardQ x want h op k
  | no (e : x ≠ .bool want) (hk : k undef h) : guardQ x want h op k

def guardI (x : Value) (want : Bool) (h : AH) (op : (Value → AH → Prop) → Prop) (k : Value → AH → Prop) : Prop :=
  match x with
  | .bool b => if b = want then op k else k undef h
  | _ => k undef h

theorem guardQ_iff {x : Value} {want : Bool} {h : AH} {op : (Value → AH → Prop) → Prop} {k : Value → AH → Prop} : guardQ x want h op k ↔ guardI x want h op k := by
  unfold guardI
  constructor
  · intro g
    cases g with
    | yes e hk => rw [e]; simpa using hk
    | no e hk =>
      split
      · rename_i b
        rw [if_neg (fun e2 => e (by rw [e2]))]
        exact hk
      · exact hk
  · intro g
    split at g
    · rename_i b
      split at g
      · rename_i e; exact .yes (by rw [e]) g
      · rename_i e; exact .no (fun e2 => e (by simpa using e2)) g
    · rename_i hne
      exact .no (fun e => hne _ e) g

def isDefer : Op → Bool
  | .defer _ => true
  | _ => false

/-- the function that is deferred (it takes no arguments) -/
def deferOf (P : Program) (a : AA) (o : Oper) : Option Value := match o.op with
  | .defer c => match c.callee with
    | .value f => if c.args.isEmpty && a.rnd.loop.isNone then match a.opnd P f with
      | some (.func (.func g) x y) => some (.func (.func g) x y)
      | _ => none
      else none
    | _ => none
  | _ => none

def AA.defer (a : AA) (v : Value) : AA := ⟨a.tm, a.n, ⟨a.rnd.loop, v :: a.rnd.dfs⟩⟩

def wpO (P : Program) (ops : Array Oper) : List Nat → AA → AH → (HX → AA → AH → Prop) → Prop
  | [], a, h, Q => Q .normal a h
  | i :: rest, a, h, Q =>
    match ops[i]? with
    | none => wpO P ops rest a h Q
    | some o => match o.guard with
      | none => if isDefer o.op then bq (deferOf P a o) fun v => wpO P ops rest ((a.defer v).put o.dst undef) h Q
        else wpOp P (a.opnd P) o h (fun v h' => wpO P ops rest (a.put o.dst v) h' Q) (fun v h' => Q (.panic v) a h')
      | some (j, want) => match (ops[j]?).bind (·.dst) with
        | some d => if d < a.n then oq (a.get d) fun x =>
            guardQ x want h (fun k => wpOp P (a.opnd P) o h k fun v h' => Q (.panic v) a h') (fun v h' => wpO P ops rest (a.put o.dst v) h' Q)
          else wpO P ops rest (a.put o.dst undef) h Q
        | none => wpO P ops rest (a.put o.dst undef) h Q

theorem tmsU_get : ∀ (l : List Value) (k : Nat) (t : T Value) (i : Nat) (v : Value), (tmsU k l t).get (i + 1) = some v → (∃ j u, i = k + j ∧ l[j]? = some u ∧ unknw u = some v) ∨ t.get (i + 1) = some v := by
  intro l
  induction l with
  | nil => intro k t i v h; exact .inr h
  | cons u l ih =>
    intro k t i v h
    rw [tmsU] at h
    rcases ih (k + 1) _ i v h with ⟨j, u', h1, h2, h3⟩ | h
    · exact .inl ⟨j + 1, u', by omega, by simpa using h2, h3⟩
    · split at h
      · rename_i x hx
        rw [T.get_put _ _ _ _ _ (by omega) (Nat.le_refl _) (by omega)] at h
        split at h
        · rename_i e
          cases h
          exact .inl ⟨0, u, by omega, by simp, hx⟩
        · exact .inr h
      · exact .inr h

theorem RU.of {E : Ren} {v v' u : Value} (h : RU E v v') (hu : unknw v = some u) : RV E u v' := by
  rcases h with rfl | h
  · cases hu
  · cases h with
    | tuple hn hh => exact hh 0 u v' hu rfl

theorem RU.knw {E : Ren} {v v' : Value} (h : RV E v v') : RU E (Ab.knw v) v' := .inr (.tuple rfl fun i a b ha hb => by
  match i with
  | 0 => simp at ha hb; subst ha hb; exact h
  | _ + 1 => simp at ha)

/-- what is said of temporaries in a loop's record -/
def RUA (E : Ren) (c c' : Array Value) : Prop := c.size = c'.size ∧ ∀ (i : Nat) v v', c[i]? = some v → c'[i]? = some v' → RU E v v'

theorem RUA.set {E : Ren} {c c' : Array Value} (h : RUA E c c') (i : Nat) {v v' : Value} (hv : RU E v v') : RUA E (c.setIfInBounds i v) (c'.setIfInBounds i v') := by
  refine ⟨by simp [h.1], fun k a b ha hb => ?_⟩
  rw [Array.getElem?_setIfInBounds] at ha hb
  rw [← h.1] at hb
  split at ha
  · rename_i e
    rw [if_pos e] at hb
    split at ha
    · rename_i e'
      rw [if_pos e'] at hb
      cases ha; cases hb; exact hv
    · cases ha
  · rename_i e
    rw [if_neg e] at hb
    exact h.2 _ a b ha hb

theorem RUA.fold {E : Ren} {ps : List Tmp} : ∀ {l l' : List Value} {c c' : Array Value}, RUA E c c' → l.length = l'.length → (∀ (i : Nat) v v', l[i]? = some v → l'[i]? = some v' → RU E v v') →
    RUA E ((ps.zip l).foldl (fun t (p, v) => t.setIfInBounds p v) c) ((ps.zip l').foldl (fun t (p, v) => t.setIfInBounds p v) c') := by
  induction ps with
  | nil => intro l l' c c' h _ _; simpa using h
  | cons p ps ih =>
    intro l l' c c' h hs hv
    cases l with
    | nil =>
      cases l' with
      | nil => simpa using h
      | cons _ _ => cases hs
    | cons v l =>
      cases l' with
      | nil => cases hs
      | cons v' l' =>
        simp only [List.zip_cons_cons, List.foldl_cons]
        exact ih (h.set p (hv 0 v v' rfl rfl)) (by simpa using hs) fun i a b ha hb => hv (i + 1) a b (by simpa using ha) (by simpa using hb)

theorem zip_foldl {ps : Array Tmp} {l : Array Value} (c : Array Value) : (ps.zip l).foldl (fun t (p, v) => t.setIfInBounds p v) c = (ps.toList.zip l.toList).foldl (fun t (p, v) => t.setIfInBounds p v) c := by
  rw [← Array.foldl_toList, Array.toList_zip]

/-- a loop's record in the world -/
theorem RW.loopAt {P : Program} {E : Ren} {h : AH} {w : World} (r : RW P E h w) {k : Nat} {l : Loop} {s : Option Nat} (hk : Ab.loopAt h k = some (l, s)) :
    h.get k = some (.loop l, s) ∧ ∃ n l', E.at_ k = some n ∧ w.heap[n]? = some (.loop l') ∧ l'.state = l.state ∧ l'.pending = l.pending ∧ l'.params = l.params ∧ l'.assign = l.assign ∧ l'.body = l.body ∧ RUA E l.tmps l'.tmps := by
  unfold Ab.loopAt at hk
  split at hk
  · rename_i l0 s0 hg
    cases hk
    obtain ⟨n, o', g1, g2, g3, g4⟩ := r.live k _ _ hg
    cases g3 with
    | loop h1 h2 h3 h4 h5 hn h => exact ⟨hg, n, _, g1, g2, h1, h2, h3, h4, h5, hn, h⟩
  · cases hk

/-- a loop's record is changed -/
theorem RW.loopPut {P : Program} {E : Ren} {h : AH} {w : World} (r : RW P E h w) {k n : Nat} {l l' : Loop} {s : Option Nat} (hk : Ab.loopAt h k = some (l, s)) (hat : E.at_ k = some n) (hw : w.heap[n]? = some (.loop l')) (st : LoopState) (pe : Option Code) :
    RW P E (h.put k (some (.loop { l with state := st, pending := pe }, s))) (w.putObj n (.loop { l' with state := st, pending := pe })) ∧ Ext E w E (w.putObj n (.loop { l' with state := st, pending := pe })) := by
  obtain ⟨hg, n', l2, g1, g2, h1, h2, h3, h4, h5, hn, ht⟩ := r.loopAt hk
  rw [hat] at g1; cases g1
  rw [hw] at g2; cases g2
  exact r.put hg rfl hat (.loop rfl rfl h3 h4 h5 hn ht)

theorem RT.round {E : Ren} {r : Loop} {tmps' : Array Value} {k : Nat} {args : List Value} {args' : Array Value} (h : RUA E r.tmps tmps') (ha : RA E args.toArray args') :
    RT E (roundA r k args) ((r.params.zip args').foldl (fun t (p, v) => t.setIfInBounds p v) tmps') := by
  have hl : RUA E ((r.params.zip (args.map knw).toArray).foldl (fun t (p, v) => t.setIfInBounds p v) r.tmps) ((r.params.zip args').foldl (fun t (p, v) => t.setIfInBounds p v) tmps') := by
    rw [zip_foldl, zip_foldl]
    refine RUA.fold h (by simpa using ha.1) fun i v v' h1 h2 => ?_
    simp only [List.getElem?_map, Option.map_eq_some_iff] at h1
    obtain ⟨u, hu, rfl⟩ := h1
    exact RU.knw (ha.2 i u v' (by simpa using hu) (by simpa using h2))
  refine ⟨hl.1.symm, fun t v hv => ?_⟩
  unfold roundA AA.get at hv
  simp only at hv
  rcases tmsU_get _ _ _ _ _ hv with ⟨j, u, h1, h2, h3⟩ | h1
  · have e : t = j := by omega
    subst e
    rw [Array.getElem?_toList] at h2
    rw [Array.getD_eq_getD_getElem?]
    have hlt := (Array.getElem?_eq_some_iff.1 h2).1
    have hlt' := hlt
    rw [hl.1] at hlt'
    rw [Array.getElem?_eq_getElem hlt']
    exact (hl.2 t u _ h2 (Array.getElem?_eq_getElem hlt')).of h3
  · simp [T.get] at h1

/-- yield is called -/
theorem round_wp {P : Program} {o : Oper} {c : Call} {f : Operand} {a : AA} {h : AH} {B : Nat} {ro : Option Nat} {E : Ren} {w : World} {x : Act} {K : Act → World → Prop} {k : Value → AH → Prop} {W : Exit → Act → World → Prop} {key : Nat} {args : List Value}
    (r : RW P E h w) (rx : RX B ro E w a x) (ho : o.op = .call c) (hc : c.callee = .value f) (hf : a.opnd P f = some (.chan (some key))) (ha : listOf (a.opnd P) c.args.toList = some args)
    (hk : ∀ v h' E' w' z, k v h' → RW P E' h' w' → Ext E w E' w' → RX B ro E' w' (a.put o.dst v) z → K z w')
    (hh : roundP P key args h k) : o.wpR ro P x w K W := by
  have hput : ∀ (d : Option Tmp) (v : Value), (x.put d v).defers = x.defers := fun d v => by cases d <;> rfl
  obtain ⟨⟨l, s⟩, hl, hlen, hh⟩ := bq_eq hh
  simp only at hlen hh
  obtain ⟨hg, n, l', g1, g2, h1, h2, h3, h4, h5, ht⟩ := r.loopAt hl
  have hv := rx.rt.opnd r f _ hf
  have hra : RA E args.toArray (c.args.map x.eval) := by
    have := listOf_ok (rx.rt.opnd r) ha
    rwa [show (c.args.toList.map x.eval).toArray = c.args.map x.eval by rw [← Array.toList_map, Array.toArray_toList]] at this
  have hnd : ∀ d, o.op ≠ .defer d := fun d e => by rw [ho] at e; cases e
  have hsz : (c.args.map x.eval).size = l'.params.size := by rw [h3, ← hlen, ← hra.1]; simp
  generalize hx : x.eval f = fv at hv
  cases hv with
  | yld hat =>
    rename_i n'
    rw [g1] at hat; cases hat
    have hrun : (execOp x.eval o).run P w = .ok (.round n l'.fn ((l'.params.zip (c.args.map x.eval)).foldl (fun tmps (t, a) => tmps.setIfInBounds t a) l'.tmps) l'.assign l'.body) w := by
      unfold execOp
      rw [ho]
      simp only [resolve, hc, hx, Deferred.ofValue, Sem.run_bind, Sem.run_pure, Result.andThen_ok, invoke]
      have := run_yield (P := P) (args := c.args.map x.eval) g2 hsz
      simpa using this
    refine wpR_round hnd hrun ?_
    rw [h3, h4, h5]
    refine roundIn_of_wpIn (Fr_fn ro _) ?_
    rw [Fr_inRound]
    have rxr : RX w.heap.size (some n) E w (roundA l key args) { tmps := (l.params.zip (c.args.map x.eval)).foldl (fun tmps (t, a) => tmps.setIfInBounds t a) l'.tmps, defers := [] } :=
      ⟨RT.round ht hra, g1, XD.nil E w⟩
    refine wpIn_mono (hh w.heap.size (some n) E w _ r rxr) ?_
    rintro e y w1 ⟨hx1, a1, h1', E1, q1, q2, q3, q4, q5⟩
    cases hx1 with
    | normal =>
      cases e with
      | normal =>
        obtain ⟨⟨l1, s1⟩, hl1, hst, hbody⟩ := bq_eq q5
        simp only at hst hbody
        obtain ⟨hg1, n1, l1', p1, p2, p3, p4, p5, p6, p7, p8⟩ := q2.loopAt hl1
        have hn1 : n1 = n := by
          have := q3.le.at_ key n g1
          rw [p1] at this
          exact Option.some.inj this
        subst hn1
        refine ⟨_, run_beginRound p2 (by rw [p3]; exact hst), ?_⟩
        obtain ⟨rb, xb⟩ := q2.loopPut hl1 p1 p2 .busy l1.pending
        have eb : ({ l1' with state := .busy, pending := l1.pending } : Loop) = { l1' with state := .busy } := by rw [← p4]
        rw [eb] at rb xb
        have rxb : RX w.heap.size (some n1) E1 (w1.putObj n1 (.loop { l1' with state := .busy })) a1 y := q4.next xb q4.rt rfl rfl
        refine wpIn_mono (hbody w.heap.size (some n1) E1 _ y rb rxb) ?_
        rintro e2 y2 w2 ⟨hx2, a2, h2', E2, u1, u2, u3, u4, u5⟩
        have fin : ∀ j : Option Code, endRd k key j h2' → ∃ v w', (Instr.endRound n1 j).run P w2 = .ok v w' ∧ K (x.put o.dst v) w' := by
          intro j hj
          obtain ⟨⟨l2, s2⟩, hl2, hkk⟩ := bq_eq hj
          obtain ⟨_, n2, l2', v1, v2, v3, v4, v5, v6, v7, v8⟩ := u2.loopAt hl2
          have hn2 : n2 = n1 := by
            have := u3.le.at_ key n1 p1
            rw [v1] at this
            exact Option.some.inj this
          subst hn2
          obtain ⟨re, xe⟩ := u2.loopPut hl2 v1 v2 (if j.isNone then .ready else .done) j
          have xall : Ext E w E2 (w2.putObj n2 (.loop { l2' with state := if j.isNone then .ready else .done, pending := j })) := q3.trans (xb.trans (u3.trans xe))
          refine ⟨_, _, run_endRound j v2, hk _ _ E2 _ _ hkk re xall ?_⟩
          exact rx.next xall ((rx.rt.mono xall.le).put o.dst (.bool _)) (hput _ _) (AA.put_rnd _ _ _)
        cases hx2 with
        | normal => cases e2 with
          | normal => exact fin none u5
          | _ => cases u1
        | ret => cases e2 with
          | ret => exact fin (some .ret) u5
          | _ => cases u1
        | exit i => cases e2 with
          | exit j => have : i = j := u1
                      subst this
                      exact fin (some (.exit i)) u5
          | _ => cases u1
        | goto i => cases e2 with
          | goto j => have : i = j := u1
                      subst this
                      exact fin (some (.goto i)) u5
          | _ => cases u1
        | panic v => cases u5
      | _ => cases q1
    | _ => cases q5

theorem hc_wp {P : Program} {o : Oper} {a : AA} {h : AH} {B : Nat} {ro : Option Nat} {E : Ren} {w : World} {x : Act} {Q : HX → AA → AH → Prop} {K : Act → World → Prop} {k : Value → AH → Prop} {W : Exit → Act → World → Prop}
    (r : RW P E h w) (rx : RX B ro E w a x)
    (hk : ∀ v h' E' w' z, k v h' → RW P E' h' w' → Ext E w E' w' → RX B ro E' w' (a.put o.dst v) z → K z w')
    (hp : ∀ v v' h' E' w', Q (.panic v) a h' → RW P E' h' w' → Ext E w E' w' → RV E' v v' → W (.panic [{ v := v', recovered := false }]) x w')
    (hh : wpOp P (a.opnd P) o h k (fun v h' => Q (.panic v) a h')) : o.wpR ro P x w K W := by
  have hput : ∀ (d : Option Tmp) (v : Value), (x.put d v).defers = x.defers := fun d v => by cases d <;> rfl
  have hnext : ∀ {E' : Ren} {w' : World} {v v' : Value}, Ext E w E' w' → RV E' v v' → RX B ro E' w' (a.put o.dst v) (x.put o.dst v') := fun xe rv =>
    rx.next xe ((rx.rt.mono xe.le).put o.dst rv) (hput _ _) (AA.put_rnd _ _ _)
  by_cases hpn : ∃ y, o.op = .panic y
  · obtain ⟨y, ho⟩ := hpn
    unfold wpOp at hh
    rw [ho] at hh
    obtain ⟨v, e, hk'⟩ := oq_eq hh
    have hv := rx.rt.opnd r y v e
    unfold panicP at hk'
    split at hk'
    · rename_i t u
      generalize hx : x.eval y = xv at hv
      cases hv with
      | iface _ hv =>
        rename_i u'
        refine wpR_panic (v := .iface t u') (w' := w) (fun d e => by rw [ho] at e; cases e) ?_ (hp _ _ h E w hk' r (.refl E w) (.iface t hv))
        unfold execOp
        rw [ho]
        simp only [hx, Instr.panic, goPanic]
        rfl
    · cases hk'
  · by_cases hnx : ∃ it s, o.op = .next it s
    · obtain ⟨it, s, ho⟩ := hnx
      unfold wpOp at hh
      rw [ho] at hh
      obtain ⟨iv, e, hk'⟩ := oq_eq hh
      obtain ⟨v, v', h', w', q1, q2, q3, q4, q5⟩ := nextP_run (t := o.type) r hk' (rx.rt.opnd r it iv e)
      refine wpR_value (v := v') (w' := w') (fun d e => by rw [ho] at e; cases e) ?_ (hk v h' E w' _ q5 q2 q3 (hnext q3 q4))
      unfold execOp
      rw [ho]
      exact val_run q1
    by_cases hyl : ∃ c f l, o.op = .call c ∧ c.callee = .value f ∧ a.opnd P f = some (.chan (some l))
    · obtain ⟨c, f, l, ho, hc, hf⟩ := hyl
      unfold wpOp at hh
      rw [ho] at hh
      simp only [wpCall] at hh
      obtain ⟨args, ha, hh⟩ := oq_eq hh
      rw [hc] at hh
      simp only at hh
      obtain ⟨fv, hf', hh⟩ := oq_eq hh
      rw [hf] at hf'; cases hf'
      exact round_wp r rx ho hc hf ha hk hh
    · obtain ⟨out, hop, hk'⟩ := wpOp_abs (fun y e => hpn ⟨y, e⟩) (fun it s e => hnx ⟨it, s, e⟩) (fun c f l e1 e2 e3 => hyl ⟨c, f, l, e1, e2, e3⟩) hh
      have hok := absOp_ok r (rx.rt.opnd r) hop
      cases out with
      | val v h' =>
        obtain ⟨E', v', w', h1, h2, h3, h4⟩ := hok
        exact wpR_value (abs_nodefer hop) h1 (hk v h' E' w' _ hk' h2 h3 (hnext h3 h4))
      | unit h' =>
        obtain ⟨E', w', h1, h2, h3⟩ := hok
        exact wpR_skip (abs_nodefer hop) h1 (hk undef h' E' w' _ hk' h2 h3 (hnext h3 rv_undef))
      | enter f args h' =>
        obtain ⟨E', args', w', h1, h2, h3, h4⟩ := hok
        refine wpR_enter (abs_nodefer hop) h1 ((hk' E' w' args' h2 h4).mono ?_)
        rintro e w'' ⟨E'', res, h'', q1, q2, q3, q4⟩
        cases res with
        | ret v =>
          cases e with
          | returned v' => exact hk v h'' E'' w'' _ q4 q2 (h3.trans q3) (hnext (h3.trans q3) q1)
          | _ => cases q1
        | pan v =>
          cases e with
          | panicked chain =>
            obtain ⟨v', rfl, hv⟩ := q1
            exact hp v v' h'' E'' w'' q4 q2 (h3.trans q3) hv
          | _ => cases q1

/-- a call is deferred -/
theorem defer_wp {P : Program} {o : Oper} {a : AA} {v : Value} {h : AH} {B : Nat} {ro : Option Nat} {E : Ren} {w : World} {x : Act} {K : Act → World → Prop} {W : Exit → Act → World → Prop}
    (hv : deferOf P a o = some v) (r : RW P E h w) (rx : RX B ro E w a x) (hk : ∀ z, RX B ro E w ((a.defer v).put o.dst undef) z → K z w) : o.wpR ro P x w K W := by
  unfold deferOf at hv
  split at hv
  case h_2 => cases hv
  rename_i c hop
  split at hv
  case h_2 => cases hv
  rename_i f hc
  split at hv
  case isFalse => cases hv
  rename_i hif
  rw [Bool.and_eq_true] at hif
  split at hv
  case h_2 => cases hv
  rename_i g fi ca hf
  cases hv
  have hro : ro = none := by
    have := rx.rd
    rw [Option.isNone_iff_eq_none.1 hif.2] at this
    cases ro with
    | none => rfl
    | some _ => cases this
  subst hro
  have hargs : c.args = #[] := by simpa using hif.1
  have hfv := rx.rt.opnd r f _ hf
  refine ⟨fun f _ => Fr_fn none f, ?_⟩
  have hsem : (o.semAt (Fr none).round x.eval).run P w = (execOp x.eval o).run P w := by rw [Fr_round]; rfl
  rw [hsem]
  generalize hx : x.eval f = fv at hfv
  have hput : ∀ (z : Act) (d : Option Tmp) (v : Value), (z.put d v).defers = z.defers := fun z d v => by cases d <;> rfl
  cases hfv with
  | func _ h1 h2 h3 h4 =>
    rename_i fi' ca'
    have hrun : (execOp x.eval o).run P w = .ok (.defer { target := .fn (.func g) ca', args := fi' }) w := by
      unfold execOp
      rw [hop]
      simp [resolve, hc, hx, Deferred.ofValue, hargs, Sem.run_bind, Sem.run_pure, Result.andThen_ok]
    rw [hrun]
    show K _ w
    refine hk _ ⟨?_, ?_, ?_⟩
    · exact RT.put (x := { tmps := x.tmps, defers := _ :: x.defers }) (a := a.defer _) ⟨rx.rt.size, rx.rt.get⟩ o.dst rv_undef
    · rw [AA.put_rnd]; exact rx.rd
    · rw [AA.put_rnd, hput]
      exact rx.xd.fn (.func g h1 h2 h3 h4)

theorem wpO_ok {P : Program} {ops : Array Oper} {Q : HX → AA → AH → Prop} : ∀ (l : List Nat) {a : AA} {h : AH}, wpO P ops l a h Q → ∀ {B : Nat} {ro : Option Nat} {E₀ E : Ren} {w₀ w : World} {x : Act}, RW P E h w → Ext E₀ w₀ E w → RX B ro E w a x →
    wpOpsR ro P ops (HPost P B ro E₀ w₀ Q) l x w := by
  intro l
  induction l with
  | nil =>
    intro a h hh B ro E₀ E w₀ w x r xt rx
    exact ⟨.normal, a, h, E, trivial, r, xt, rx, hh⟩
  | cons i rest ih =>
    intro a h hh B ro E₀ E w₀ w x r xt rx
    have hput : ∀ (d : Option Tmp) (v : Value), (x.put d v).defers = x.defers := fun d v => by cases d <;> rfl
    simp only [wpO] at hh
    simp only [wpOpsR]
    cases ho : ops[i]? with
    | none => rw [ho] at hh; exact ih hh r xt rx
    | some o =>
      rw [ho] at hh
      simp only at hh ⊢
      have run : wpOp P (a.opnd P) o h (fun v h' => wpO P ops rest (a.put o.dst v) h' Q) (fun v h' => Q (.panic v) a h') → o.wpR ro P x w (wpOpsR ro P ops (HPost P B ro E₀ w₀ Q) rest) (HPost P B ro E₀ w₀ Q) := fun hw =>
        hc_wp (Q := Q) r rx (fun v h' E' w' z hk q1 q2 q3 => ih hk q1 (xt.trans q2) q3)
          (fun v v' h' E' w' hk q1 q2 q3 => ⟨.panic v, a, h', E', ⟨v', rfl, q3⟩, q1, xt.trans q2, rx.next q2 (rx.rt.mono q2.le) rfl rfl, hk⟩) hw
      have skip : wpO P ops rest (a.put o.dst undef) h Q → wpOpsR ro P ops (HPost P B ro E₀ w₀ Q) rest (x.put o.dst undef) w := fun hw => ih hw r xt (rx.next (.refl E w) (rx.rt.put o.dst rv_undef) (hput _ _) (AA.put_rnd _ _ _))
      split at hh
      · rename_i hg
        rw [if_pos (by unfold Region.wanted; rw [hg])]
        split at hh
        · obtain ⟨v, hv, hh⟩ := bq_eq hh
          exact defer_wp hv r rx fun z rz => ih hh r xt rz
        · exact run hh
      · rename_i j want hg
        split at hh
        · rename_i d hd'
          split at hh
          · rename_i hlt
            obtain ⟨v, hv, hh⟩ := oq_eq hh
            have hkn : a.knows ops o = true := by
              unfold AA.knows
              rw [hg]
              simp only [hd', hlt, if_true, hv, Option.isSome_some]
            rw [← rx.rt.yielded ops hkn]
            have hy : a.yielded ops j = match v with | .bool b => some b | _ => none := by
              unfold AA.yielded
              simp only [hd', hlt, if_true, hv]
              cases v <;> rfl
            have hw : Region.wanted o (a.yielded ops) = (a.yielded ops j == some want) := by
              unfold Region.wanted; rw [hg]
            rw [hw, hy]
            rw [guardQ_iff] at hh
            unfold guardI at hh
            cases v with
            | bool b =>
              simp only at hh ⊢
              by_cases e : b = want
              · rw [if_pos e] at hh
                rw [if_pos (by simp [e])]
                exact run hh
              · rw [if_neg e] at hh
                rw [if_neg (by simp [e])]
                exact skip hh
            | _ =>
              simp only at hh ⊢
              exact skip hh
          · rename_i hlt
            have hkn : a.knows ops o = true := by
              unfold AA.knows
              rw [hg]
              simp only [hd', hlt, if_false]
            rw [← rx.rt.yielded ops hkn]
            have : Region.wanted o (a.yielded ops) = false := by
              unfold Region.wanted AA.yielded
              rw [hg]
              simp only [hd', hlt, if_false]
              rfl
            rw [this]
            exact skip hh
        · rename_i hd'
          have hkn : a.knows ops o = true := by
            unfold AA.knows
            rw [hg]
            simp only [hd']
          rw [← rx.rt.yielded ops hkn]
          have : Region.wanted o (a.yielded ops) = false := by
            unfold Region.wanted AA.yielded
            rw [hg]
            simp only [hd']
            rfl
          rw [this]
          exact skip hh

end Go.Ab

/- AbDrawR -/
namespace Go.Ab
set_option linter.unusedVariables false
set_option linter.unusedSimpArgs false

/-- what one operation does, whatever else is known -/
def StepW (P : Program) (ops : Array Oper) (o : Oper) (a : AA) (h : AH) (v : Value) (h' : AH) : Prop :=
  ∀ (ro : Option Nat) (E : Ren) (w : World) (y : Act) (K : Act → World → Prop) (W : Exit → Act → World → Prop), RW P E h w → RT E a y.tmps →
    (∀ E' w' v', RW P E' h' w' → Ext E w E' w' → RV E' v v' → K (y.put o.dst v') w') →
    if Region.wanted o (Go.yielded ops y.tmps) then o.wpR ro P y w K W else K (y.put o.dst undef) w

/-- the run in the order of the text -/
structure TraceW (P : Program) (ops : Array Oper) (rs : List Rec) (a : AA) (h h₂ : AH) : Prop where
  len : rs.length = ops.size
  op : ∀ (i : Nat) r, rs[i]? = some r → ops[i]? = some r.o
  head : ∀ r, rs[0]? = some r → r.h = h
  chain : ∀ (i : Nat) r q, rs[i]? = some r → rs[i + 1]? = some q → q.h = r.h'
  last : (rs = [] → h₂ = h) ∧ ∀ r, rs[rs.length - 1]? = some r → h₂ = r.h'
  known : ∀ (i : Nat) r, rs[i]? = some r → r.a.n = a.n ∧ ∀ t v, r.a.get t = some v → valT rs a t (lastB (writesAt rs a.n t) i) = some v ∧ t ∈ readsOf ops r.o
  step : ∀ (i : Nat) r, rs[i]? = some r → StepW P ops r.o r.a r.h r.v r.h'
  quiet : ∀ (i : Nat) r, rs[i]? = some r → r.q = false → r.h' = r.h

structure OrderedW (P : Program) (ops : Array Oper) (rs : List Rec) (n : Nat) (h : AH) (pl : Nat → List Nat) : Prop where
  ahead : ∀ m i l, Good m ops (i :: l) → ∀ j ∈ pl i, j ∈ l
  tm : ∀ i k x y d, rs[i]? = some x → rs[k]? = some y → i ≠ k → y.o.dst = some d → d < n → (d ∈ readsOf ops x.o ∨ x.o.dst = some d) → (k < i → k ∈ pl i) ∧ (i < k → i ∈ pl k)
  ld : ∀ i k, loudAt rs i = true → loudAt rs k = true → k < i → k ∈ pl i
  rd : ∀ i r, rs[i]? = some r → r.q = false → ∀ q : Option Nat, (∀ l, q = some l → loudAt rs l = true) →
    (∀ p ∈ pl i, loudAt rs p = true → ∃ l, q = some l ∧ p ≤ l) → (∀ l', loudAt rs l' = true → (∃ l, q = some l ∧ l' ≤ l) → i ∉ pl l') →
    StepW P ops r.o r.a (heapT rs h q) r.v (heapT rs h q)

section
variable {P : Program} {ops : Array Oper} {a a₂ : AA} {h h₂ : AH} {rs : List Rec}

theorem TraceW.heap (ht : TraceW P ops rs a h h₂) : ∀ (i : Nat) r, rs[i]? = some r → r.h = heapT rs h (lastB (loudAt rs) i) := by
  intro i
  induction i with
  | zero => intro r hr; rw [ht.head r hr]; rfl
  | succ i ih =>
    intro r hr
    have hlt : i < rs.length := by have := (List.getElem?_eq_some_iff.1 hr).1; omega
    have hp : rs[i]? = some rs[i] := List.getElem?_eq_getElem hlt
    rw [ht.chain i rs[i] r hp hr]
    simp only [lastB, loudAt, hp]
    cases hl : rs[i].q with
    | true => simp [heapT, hp]
    | false => rw [ht.quiet i _ hp hl, ih _ hp]; rfl

theorem TraceW.heapEnd (ht : TraceW P ops rs a h h₂) : h₂ = heapT rs h (lastB (loudAt rs) ops.size) := by
  cases hn : ops.size with
  | zero =>
    have : rs = [] := List.eq_nil_of_length_eq_zero (by rw [ht.len, hn])
    rw [ht.last.1 this]; rfl
  | succ i =>
    have hlt : i < rs.length := by rw [ht.len, hn]; omega
    have hp : rs[i]? = some rs[i] := List.getElem?_eq_getElem hlt
    have hl := ht.last.2 rs[i] (by rw [ht.len, hn]; exact hp)
    rw [hl]
    simp only [lastB, loudAt, hp]
    cases hq : rs[i].q with
    | true => simp [heapT, hp]
    | false => rw [ht.quiet i _ hp hq, ht.heap i _ hp]; rfl

section
variable {pl : Nat → List Nat} (ho : OrderedW P ops rs a.n h pl)
include ho

theorem closedW {m : Region.Mode} {acc : List Nat} (hg : Good m ops acc) {k : Nat} (hk : k ∈ acc) : ∀ j ∈ pl k, j ∈ acc := by
  intro j hj
  obtain ⟨l1, l2, rfl⟩ := List.append_of_mem hk
  have := ho.ahead m k l2 hg.drop j hj
  exact List.mem_append_right _ (List.mem_cons_of_mem _ this)

theorem last_hereW {m : Region.Mode} {i : Nat} {acc : List Nat} (hg : Good m ops (i :: acc)) (hi : i < ops.size) {p : Nat → Bool}
    (h1 : ∀ k, k < i → p k = true → k ∈ pl i) (h2 : ∀ k, i < k → p k = true → i ∈ pl k) : lastB (fun k => p k && decide (k ∈ acc)) ops.size = lastB p i := by
  have hup : ∀ k, i ≤ k → k < ops.size → (p k && decide (k ∈ acc)) = false := by
    intro k hk _
    rw [Bool.and_eq_false_iff]
    by_cases e : k = i
    · subst e; right; simpa using hg.2.1
    · cases hp : p k with
      | false => exact .inl rfl
      | true =>
        right
        have := h2 k (by omega) hp
        simp only [decide_eq_false_iff_not]
        exact fun hc => hg.2.1 (closedW ho hg.1 hc i this)
  rw [lastB_cut (Nat.le_of_lt hi) hup]
  refine lastB_congr fun k hk => ?_
  cases hp : p k with
  | false => rfl
  | true => simpa using ho.ahead m i acc hg k (h1 k hk hp)

theorem last_putW {m : Region.Mode} {i : Nat} {acc : List Nat} (hg : Good m ops (i :: acc)) (hi : i < ops.size) {p : Nat → Bool} (hp : p i = true)
    (h2 : ∀ k, i < k → p k = true → i ∈ pl k) : lastB (fun k => p k && decide (k ∈ i :: acc)) ops.size = some i := by
  refine lastB_at hi (by simp [hp]) fun k hk _ => ?_
  rw [Bool.and_eq_false_iff]
  cases hpk : p k with
  | false => exact .inl rfl
  | true =>
    right
    have := h2 k hk hpk
    simp only [decide_eq_false_iff_not, List.mem_cons, not_or]
    exact ⟨by omega, fun hc => hg.2.1 (closedW ho hg.1 hc i this)⟩

end

theorem draw_wpW {ro : Option Nat} {D : List Deferred} (ht : TraceW P ops rs a h h₂) {pl : Nat → List Nat} (ho : OrderedW P ops rs a.n h pl) (hn₂ : a₂.n = a.n) (hv₂ : ∀ t v, a₂.get t = some v → valT rs a t (lastB (writesAt rs a.n t) ops.size) = some v)
    {E : Ren} {w : World} {x : Act} {Q : Exit → Act → World → Prop} (r0 : RW P E h w) (rt0 : RT E a x.tmps) (hd0 : x.defers = D)
    (hQ : ∀ E' w' y, RW P E' h₂ w' → Ext E w E' w' → RT E' a₂ y.tmps → y.defers = D → Q .normal y w') {m : Region.Mode} {l : List Nat} (hg : Good m ops l) (hl : l.length = ops.size) :
    wpOpsR ro P ops Q l.reverse x w := by
  have go : ∀ (rest acc : List Nat), Good m ops (rest.reverse ++ acc) → (rest.reverse ++ acc).length = ops.size → ∀ (E' : Ren) (w' : World) (y : Act) (aS : AA),
      RW P E' (heapT rs h (lastB (fun k => loudAt rs k && decide (k ∈ acc)) ops.size)) w' → Ext E w E' w' → RT E' aS y.tmps → aS.n = a.n →
      (∀ t, aS.get t = valT rs a t (lastB (fun k => writesAt rs a.n t k && decide (k ∈ acc)) ops.size)) → y.defers = D → wpOpsR ro P ops Q rest y w' := by
    intro rest
    induction rest with
    | nil =>
      intro acc hga hla E' w' y aS r xt rt hn hv hd
      simp only [List.reverse_nil, List.nil_append] at hga hla
      have hall : ∀ k, k < ops.size → k ∈ acc := by
        intro k hk
        apply Classical.byContradiction
        intro hc
        have hsub : ∀ j ∈ k :: acc, j ∈ List.range ops.size := by
          intro j hj
          cases hj with
          | head => exact List.mem_range.2 hk
          | tail _ hj => exact List.mem_range.2 (hga.lt j hj)
        have := (List.nodup_cons.2 ⟨hc, hga.nodup⟩).length_le_of_subset hsub
        rw [List.length_range, List.length_cons] at this
        omega
      have hcg : ∀ p : Nat → Bool, lastB (fun k => p k && decide (k ∈ acc)) ops.size = lastB p ops.size := fun p => lastB_congr fun k hk => by simp [hall k hk]
      simp only [wpOpsR]
      refine hQ E' w' y ?_ xt (rt.less (by rw [hn₂, hn]) fun t v hvt => ?_) hd
      · rw [ht.heapEnd, ← hcg]; exact r
      · rw [hv t, hcg]; exact hv₂ t v hvt
    | cons i rest ih =>
      intro acc hga hla E' w' y aS r xt rt hn hv hd
      have hga' : Good m ops (rest.reverse ++ (i :: acc)) := by simpa using hga
      have hla' : (rest.reverse ++ (i :: acc)).length = ops.size := by simpa using hla
      have hgi : Good m ops (i :: acc) := hga'.drop
      obtain ⟨o, hoi, _⟩ := hgi.2.2
      have hi : i < ops.size := (Array.getElem?_eq_some_iff.1 hoi).1
      have hri : rs[i]? = some (rs[i]'(by rw [ht.len]; omega)) := List.getElem?_eq_getElem _
      generalize hr : rs[i]'(by rw [ht.len]; omega) = ri at hri
      have hro : ri.o = o := by
        have := ht.op i ri hri
        rw [hoi] at this
        exact (Option.some.inj this).symm
      obtain ⟨g1, g2⟩ := ht.known i ri hri
      have hreads : ∀ t v, ri.a.get t = some v → aS.get t = some v := by
        intro t v htv
        obtain ⟨k1, k2⟩ := g2 t v htv
        rw [hv t, ← k1]
        congr 1
        refine last_hereW ho hgi hi (fun k hk hp => ?_) (fun k hk hp => ?_)
        · unfold writesAt at hp
          split at hp
          · rename_i yk hyk
            simp only [Bool.and_eq_true, beq_iff_eq, decide_eq_true_eq] at hp
            exact (ho.tm i k ri yk t hri hyk (by omega) hp.1 hp.2 (.inl k2)).1 hk
          · cases hp
        · unfold writesAt at hp
          split at hp
          · rename_i yk hyk
            simp only [Bool.and_eq_true, beq_iff_eq, decide_eq_true_eq] at hp
            exact (ho.tm i k ri yk t hri hyk (by omega) hp.1 hp.2 (.inl k2)).2 hk
          · cases hp
      have rti : RT E' ri.a y.tmps := rt.less (by rw [g1, hn]) hreads
      have hli : loudAt rs i = ri.q := by simp [loudAt, hri]
      have hwi : ∀ t, writesAt rs a.n t i = (ri.o.dst == some t && decide (t < a.n)) := fun t => by simp [writesAt, hri]
      have hloudHere : ri.q = true → heapT rs h (lastB (fun k => loudAt rs k && decide (k ∈ acc)) ops.size) = ri.h := by
        intro hl
        rw [ht.heap i ri hri, last_hereW ho hgi hi (fun k hk hp => ho.ld i k (by rw [hli]; exact hl) hp hk) (fun k hk hp => ho.ld k i hp (by rw [hli]; exact hl) hk)]
      have hloudPut : ri.q = true → heapT rs h (lastB (fun k => loudAt rs k && decide (k ∈ i :: acc)) ops.size) = ri.h' := by
        intro hl
        rw [last_putW ho hgi hi (by rw [hli]; exact hl) (fun k hk hp => ho.ld k i hp (by rw [hli]; exact hl) hk)]
        simp [heapT, hri]
      have hquietPut : ri.q = false → heapT rs h (lastB (fun k => loudAt rs k && decide (k ∈ i :: acc)) ops.size) = heapT rs h (lastB (fun k => loudAt rs k && decide (k ∈ acc)) ops.size) := by
        intro hl
        rw [last_skip (by rw [hli]; exact hl)]
      have hvals : ∀ t, (aS.put ri.o.dst ri.v).get t = valT rs a t (lastB (fun k => writesAt rs a.n t k && decide (k ∈ i :: acc)) ops.size) := by
        intro t
        by_cases hw : writesAt rs a.n t i = true
        · have hw' := hw
          rw [hwi] at hw'
          simp only [Bool.and_eq_true, beq_iff_eq, decide_eq_true_eq] at hw'
          rw [last_putW ho hgi hi hw (fun k hk hp => by
            unfold writesAt at hp
            split at hp
            · rename_i yk hyk
              simp only [Bool.and_eq_true, beq_iff_eq, decide_eq_true_eq] at hp
              exact (ho.tm i k ri yk t hri hyk (by omega) hp.1 hp.2 (.inr hw'.1)).2 hk
            · cases hp)]
          rw [hw'.1, AA.get_put, hn, if_pos ⟨rfl, hw'.2⟩]
          simp [valT, hri]
        · rw [last_skip (by simpa using hw), ← hv t]
          rw [hwi] at hw
          cases hdst : ri.o.dst with
          | none => rfl
          | some d =>
            rw [AA.get_put, hn, if_neg]
            rintro ⟨rfl, hlt⟩
            exact hw (by simp [hdst, hlt])
      have hnn : ∀ v, (aS.put ri.o.dst v).n = a.n := fun v => by rw [put_n, hn]
      have hput : ∀ (d : Option Tmp) (v : Value), (y.put d v).defers = D := fun d v => by cases d <;> exact hd
      simp only [wpOpsR, hoi]
      rw [← hro]
      cases hq : ri.q with
      | true =>
        have hst := ht.step i ri hri
        rw [← hloudHere hq] at hst
        exact hst ro E' w' y _ _ r rti fun E2 w2 v2 p1 p2 p3 => ih (i :: acc) hga' hla' E2 w2 _ _ (by rw [hloudPut hq]; exact p1) (xt.trans p2) ((rt.mono p2.le).put ri.o.dst p3) (hnn _) hvals (hput _ _)
      | false =>
        have hrd := ho.rd i ri hri hq (lastB (fun k => loudAt rs k && decide (k ∈ acc)) ops.size)
          (fun l hl' => by have := (lastB_some hl').2.1; simp only [Bool.and_eq_true] at this; exact this.1)
          (fun p hp hlp => by
            have hpa := ho.ahead m i acc hgi p hp
            have hps := hgi.1.lt p hpa
            cases hlast : lastB (fun k => loudAt rs k && decide (k ∈ acc)) ops.size with
            | none =>
              have := lastB_none hlast p hps
              simp [hlp, hpa] at this
            | some l => exact ⟨l, rfl, (lastB_some hlast).2.2 p hps (by simp [hlp, hpa])⟩)
          (by
            rintro l' hl' ⟨l, hlast, hle⟩ hmem
            obtain ⟨z1, z2, z3⟩ := lastB_some hlast
            simp only [Bool.and_eq_true, decide_eq_true_eq] at z2
            have hla : l' ∈ acc := by
              by_cases e : l' = l
              · rw [e]; exact z2.2
              · exact closedW ho hgi.1 z2.2 l' (ho.ld l l' z2.1 hl' (by omega))
            exact hgi.2.1 (closedW ho hgi.1 hla i hmem))
        exact hrd ro E' w' y _ _ r rti fun E2 w2 v2 p1 p2 p3 => ih (i :: acc) hga' hla' E2 w2 _ _ (by rw [hquietPut hq]; exact p1) (xt.trans p2) ((rt.mono p2.le).put ri.o.dst p3) (hnn _) hvals (hput _ _)
  have hnone : ∀ p : Nat → Bool, lastB (fun k => p k && decide (k ∈ ([] : List Nat))) ops.size = none := by
    intro p
    have : ∀ n, lastB (fun k => p k && decide (k ∈ ([] : List Nat))) n = none := by
      intro n
      induction n with
      | zero => rfl
      | succ n ih => simp only [lastB, List.not_mem_nil, decide_false, Bool.and_false, Bool.false_eq_true, if_false]; simpa using ih
    exact this _
  refine go l.reverse [] (by simpa using hg) (by simpa using hl) E w x a (by rw [hnone]; exact r0) (.refl E w) rt0 rfl (fun t => by rw [hnone]; rfl) hd0

end

end Go.Ab

/- AbDrawX -/
namespace Go.Ab
set_option linter.unusedVariables false
set_option linter.unusedSimpArgs false

/-- a call that returns just one thing -/
def exP (P : Program) (f : FuncId) (args : Array Value) (h : AH) (k : Value → AH → Prop) : Prop := ∃ v h', Ex P f args h v h' ∧ k v h'

def enterX (P : Program) (f : FuncId) (args : List Value) (h : AH) (k : Value → AH → Prop) : Prop :=
  match P.funcs[f]? with
  | some fn => if fn.name == "runtime.NumGoroutine" then False else if fn.body.isNone then (if isExt fn then bq (extO fn.name args h) fun r => k r.1 r.2 else bq (externV P f args) fun v => k v h) else exP P f args.toArray h k
  | none => False

def callX (P : Program) (fv : Value) (args : List Value) (h : AH) (k : Value → AH → Prop) : Prop := match fv with
  | .func (.func g) first captured => enterX P g (first.toList ++ args ++ captured.toList) h k
  | _ => False

def invokeX (P : Program) (rv : Value) (name : String) (args : List Value) (h : AH) (k : Value → AH → Prop) : Prop := match rv with
  | .iface t v => match methodOf P t v name with
    | some (g, r) => enterX P g (r :: args) h k
    | none => False
  | _ => False

def wpOpX (P : Program) (ρ : Operand → Option Value) (o : Oper) (h : AH) (k : Value → AH → Prop) : Prop :=
  match o.op with
  | .call c => match c.callee with
    | .value f => oq (listOf ρ c.args.toList) fun args => oq (ρ f) fun fv => callX P fv args h k
    | .invoke recv name => oq (listOf ρ c.args.toList) fun args => oq (ρ recv) fun rv => invokeX P rv name args h k
    | .builtin _ => wpCall P ρ c o.type h k fun _ _ => False
  | .panic _ => False
  | .next .. => False
  | _ => wpOp P ρ o h k fun _ _ => False

def outX (P : Program) (out : Out) (k : Value → AH → Prop) : Prop := match out with
  | .val v h => k v h
  | .unit h => k undef h
  | .enter f args h => exP P f args h k

section
variable {P : Program} {ρ : Operand → Option Value} {h : AH} {k : Value → AH → Prop}

theorem enterX_abs {f : FuncId} {args : List Value} (hh : enterX P f args h k) : ∃ out, enterOf P f args h = some out ∧ outX P out k := by
  unfold enterX at hh
  unfold enterOf
  cases hf : P.funcs[f]? with
  | none => rw [hf] at hh; cases hh
  | some fn =>
    rw [hf] at hh
    simp only at hh ⊢
    split at hh
    · cases hh
    · rename_i hn
      rw [if_neg hn]
      split at hh
      · rename_i hb
        rw [if_pos hb]
        split at hh
        · rename_i hx
          rw [if_pos hx]
          obtain ⟨y, e, hk⟩ := bq_eq hh
          exact ⟨.val y.1 y.2, by simp only [e]; rfl, hk⟩
        rename_i hx
        rw [if_neg hx]
        obtain ⟨v, e, hk⟩ := bq_eq hh
        unfold externV at e
        split at e
        · rename_i hp
          rw [if_pos hp]
          split at e
          · rename_i u hu
            split at e
            · rename_i hpu
              cases e
              exact ⟨.val v h, by simp only [hu, hpu, if_true], hk⟩
            · cases e
          · cases e
        · cases e
      · rename_i hb
        rw [if_neg hb]
        exact ⟨_, rfl, hh⟩

theorem outK_X {out : Out} (hne : ∀ f args g, out ≠ .enter f args g) (hh : outK P out k fun _ _ => False) : outX P out k := by
  cases out with
  | val v h => exact hh
  | unit h => exact hh
  | enter f args g => exact absurd rfl (hne f args g)

theorem wpOpX_abs {o : Oper} (hh : wpOpX P ρ o h k) : ∃ out, absOp P ρ o h = some out ∧ outX P out k := by
  unfold wpOpX at hh
  have plainCase : (∀ x, o.op ≠ .panic x) → (∀ it s, o.op ≠ .next it s) → (∀ c, o.op ≠ .call c) → wpOp P ρ o h k (fun _ _ => False) → ∃ out, absOp P ρ o h = some out ∧ outX P out k := by
    intro h1 h0 h2 hw
    obtain ⟨out, hop, hk⟩ := wpOp_abs h1 h0 (fun c f l e => absurd e (h2 c)) hw
    refine ⟨out, hop, outK_X ?_ hk⟩
    rintro f args g rfl
    have noVal : ∀ {v : Option Value}, valH h v = some (.enter f args g) → False := fun e => by obtain ⟨u, _, e⟩ := valH_eq e; cases e
    have noValP : ∀ {v : Option (Value × AH)}, valP v = some (.enter f args g) → False := fun e => by obtain ⟨u, g, _, e⟩ := valP_eq e; cases e
    unfold absOp at hop
    repeat' split at hop
    all_goals first
      | (cases hop; done)
      | (exact noVal hop)
      | (exact noValP hop)
      | (rename_i ho; exact h2 _ ho)
      | skip
    · unfold absBin at hop
      repeat' split at hop
      all_goals first
        | (cases hop; done)
        | (exact noVal hop)
    · unfold absConvert at hop
      repeat' split at hop
      all_goals first
        | (cases hop; done)
        | (exact noVal hop)
  cases ho : o.op with
  | call c =>
    rw [ho] at hh
    simp only at hh
    unfold absOp
    rw [ho]
    simp only
    cases hc : c.callee with
    | builtin b =>
      rw [hc] at hh
      obtain ⟨out, hop, hk⟩ := wpCall_abs (fun f l e => by rw [hc] at e; cases e) hh
      refine ⟨out, hop, outK_X ?_ hk⟩
      rintro f args g rfl
      have noVal : ∀ {v : Option Value}, valH h v = some (.enter f args g) → False := fun e => by obtain ⟨u, _, e⟩ := valH_eq e; cases e
      have noValP : ∀ {v : Option (Value × AH)}, valP v = some (.enter f args g) → False := fun e => by obtain ⟨u, g, _, e⟩ := valP_eq e; cases e
      unfold absCall at hop
      rw [hc] at hop
      cases b <;> (simp only at hop; repeat' split at hop) <;> first
        | (cases hop; done)
        | (exact noVal hop)
        | (exact noValP hop)
    | value f =>
      rw [hc] at hh
      obtain ⟨args, e1, hh⟩ := oq_eq hh
      obtain ⟨fv, e2, hh⟩ := oq_eq hh
      unfold absCall
      simp only [e1, hc, e2]
      unfold callX at hh
      split at hh
      · exact enterX_abs hh
      · cases hh
    | invoke recv name =>
      rw [hc] at hh
      obtain ⟨args, e1, hh⟩ := oq_eq hh
      obtain ⟨rv, e2, hh⟩ := oq_eq hh
      unfold absCall
      simp only [e1, hc, e2]
      unfold invokeX at hh
      split at hh
      · rename_i t v
        simp only
        cases hm : methodOf P t v name with
        | none => rw [hm] at hh; cases hh
        | some gr =>
          obtain ⟨g, r⟩ := gr
          rw [hm] at hh
          exact enterX_abs hh
      · cases hh
  | panic x => rw [ho] at hh; cases hh
  | next it s => rw [ho] at hh; cases hh
  | _ => exact plainCase (fun x e => by rw [ho] at e; cases e) (fun it s e => by rw [ho] at e; cases e) (fun c e => by rw [ho] at e; cases e) (by rw [ho] at hh; exact hh)

end

/-- the run in the order of the text, with calls that return just one thing -/
def wpX (P : Program) (ops : Array Oper) : List Oper → AA → AH → (AA → AH → Prop) → Prop
  | [], a, h, Q => Q a h
  | o :: l, a, h, Q => match o.guard with
    | none => wpOpX P (a.opnd P) o h fun v h' => wpX P ops l (a.put o.dst v) h' Q
    | some (j, want) => match (ops[j]?).bind (·.dst) with
      | some d => if d < a.n then oq (a.get d) fun x => guardQ x want h (fun k => wpOpX P (a.opnd P) o h k) fun v h' => wpX P ops l (a.put o.dst v) h' Q
        else wpX P ops l (a.put o.dst undef) h Q
      | none => wpX P ops l (a.put o.dst undef) h Q

theorem clo_lt {ops : Array Oper} (hb : backs ops = true) : ∀ i k, k ∈ (clo ops.toList []).getD i [] → k < i := by
  have key : ∀ (l : List Oper) (acc : List (List Nat)), ops.toList.drop acc.length = l → (∀ i k, k ∈ acc.getD i [] → k < i) → ∀ i k, k ∈ (clo l acc).getD i [] → k < i := by
    intro l
    induction l with
    | nil => intro acc _ h; exact h
    | cons o l ih =>
      intro acc hd h
      have ho : ops[acc.length]? = some o := by
        have : ops.toList[acc.length]? = some o := by rw [← List.head?_drop, hd]; rfl
        simpa using this
      refine ih _ ?_ ?_
      · rw [List.length_append, List.length_singleton, ← List.drop_drop, hd]; rfl
      · intro i k hk
        by_cases e : i < acc.length
        · rw [List.getD_eq_getElem?_getD, List.getElem?_append_left e, ← List.getD_eq_getElem?_getD] at hk
          exact h i k hk
        · by_cases e2 : i = acc.length
          · subst e2
            rw [List.getD_eq_getElem?_getD, List.getElem?_append_right (Nat.le_refl _)] at hk
            simp only [Nat.sub_self, List.getElem?_cons_zero, Option.getD_some, List.mem_flatMap, List.mem_filter] at hk
            obtain ⟨ed, ⟨he, hst⟩, hk⟩ := hk
            have hlt := backs_lt hb ho ed (by simpa using he) hst
            cases hk with
            | head => exact hlt
            | tail _ hk => have := h ed.on k hk; omega
          · rw [List.getD_eq_getElem?_getD, List.getElem?_eq_none (by simp; omega)] at hk
            cases hk
  exact key ops.toList [] (by simp) (fun i k hk => by simp at hk)

/-- what comes to the same on every heap -/
def freeO (o : Oper) : Bool := free o && match o.op with | .call _ => false | _ => true

/-- what one step comes to -/
structure Step1 (P : Program) (ops : Array Oper) (o : Oper) (a : AA) (h : AH) (v : Value) (q : Bool) (h' : AH) : Prop where
  quiet : q = false → h' = h
  loud : q = true → loud P o = true
  step : ∀ b : AA, b.n = a.n → (∀ t ∈ readsOf ops o, b.get t = a.get t) → StepW P ops o b h v h'
  free : freeO o = true → ∀ (g : AH) (b : AA), b.n = a.n → (∀ t ∈ readsOf ops o, b.get t = a.get t) → StepW P ops o b g v g

/-- one operation, with what is known of its guard -/
def wpG (P : Program) (ops : Array Oper) (o : Oper) (a : AA) (h : AH) (k : Value → AH → Prop) : Prop := match o.guard with
  | none => wpOpX P (a.opnd P) o h k
  | some (j, want) => match (ops[j]?).bind (·.dst) with
    | some d => if d < a.n then oq (a.get d) fun x => guardQ x want h (fun k => wpOpX P (a.opnd P) o h k) k
      else k undef h
    | none => k undef h

theorem stepG {P : Program} {ops : Array Oper} {o : Oper} {a : AA} {h : AH} {kk : Value → AH → Prop} (hh : wpG P ops o a h kk) :
    ∃ v q h', Step1 P ops o a h v q h' ∧ kk v h' := by
  have run : ∀ (k : Value → AH → Prop), wpOpX P (a.opnd P) o h k → (∀ b : AA, b.n = a.n → (∀ t ∈ readsOf ops o, b.get t = a.get t) → ∀ E (y : Act), RT E b y.tmps → Region.wanted o (Go.yielded ops y.tmps) = true) →
      ∃ v q h', Step1 P ops o a h v q h' ∧ k v h' := by
    intro k hw hwant
    obtain ⟨out, hop, hk⟩ := wpOpX_abs hw
    have hopb : ∀ b : AA, (∀ t ∈ readsOf ops o, b.get t = a.get t) → absOp P (b.opnd P) o h = some out := by
      intro b hb
      rw [← hop]
      refine absOp_congr fun x hx => ?_
      cases x with
      | tmp t => exact hb t (List.mem_append_left _ (List.mem_filterMap.2 ⟨.tmp t, hx, rfl⟩))
      | _ => rfl
    have stepVal : ∀ (g g' : AH) (b : AA) (v : Value), b.n = a.n → (∀ t ∈ readsOf ops o, b.get t = a.get t) → absOp P (b.opnd P) o g = some (.val v g') → StepW P ops o b g v g' := by
      intro g g' b v hn hb hop ro E w y K W r rt hK
      rw [if_pos (hwant b hn hb E y rt)]
      obtain ⟨E', v', w', h1, h2, h3, h4⟩ := absOp_ok r (rt.opnd r) hop
      exact wpR_value (abs_nodefer hop) h1 (hK E' w' v' h2 h3 h4)
    have noFree : (∀ v, out ≠ .val v h) → freeO o = true → False := by
      intro hne hf
      unfold freeO at hf
      rw [Bool.and_eq_true] at hf
      obtain ⟨u, hu⟩ := quiet_val (free_loud hf.1) hop
      exact hne u hu
    cases out with
    | val v h' =>
      refine ⟨v, Ab.loud P o, h', ⟨fun hq => ?_, fun hq => hq, fun b hn hb => stepVal h h' b v hn hb (hopb b hb), fun hf g b hn hb => ?_⟩, hk⟩
      · obtain ⟨u, hu⟩ := quiet_val hq hop; cases hu; rfl
      · unfold freeO at hf
        rw [Bool.and_eq_true] at hf
        obtain ⟨u, hu⟩ := quiet_val (free_loud hf.1) hop
        have hob := hopb b hb
        cases hu
        exact stepVal g g b v hn hb (free_val hf.1 hob)
    | unit h' =>
      refine ⟨undef, true, h', ⟨(fun hq => by cases hq), fun _ => ?_, fun b hn hb ro E w y K W r rt hK => ?_, fun hf => (noFree (fun v e => by cases e) hf).elim⟩, hk⟩
      · cases hl : Ab.loud P o with
        | true => rfl
        | false => obtain ⟨u, hu⟩ := quiet_val hl hop; cases hu
      · rw [if_pos (hwant b hn hb E y rt)]
        obtain ⟨E', w', h1, h2, h3⟩ := absOp_ok r (rt.opnd r) (hopb b hb)
        exact wpR_skip (abs_nodefer hop) h1 (hK E' w' undef h2 h3 rv_undef)
    | enter f args h1 =>
      obtain ⟨v, h', hex, hk⟩ := hk
      refine ⟨v, true, h', ⟨(fun hq => by cases hq), fun _ => ?_, fun b hn hb ro E w y K W r rt hK => ?_, fun hf => (noFree (fun v e => by cases e) hf).elim⟩, hk⟩
      · cases hl : Ab.loud P o with
        | true => rfl
        | false => obtain ⟨u, hu⟩ := quiet_val hl hop; cases hu
      · rw [if_pos (hwant b hn hb E y rt)]
        obtain ⟨E', args', w', g1, g2, g3, g4⟩ := absOp_ok r (rt.opnd r) (hopb b hb)
        refine wpR_enter (abs_nodefer hop) g1 ((hex E' w' args' g2 g4).mono ?_)
        rintro e w'' ⟨E'', res, h'', q1, q2, q3, rfl, rfl⟩
        cases e with
        | returned v' => exact hK E'' w'' v' q2 (g3.trans q3) q1
        | _ => cases q1
  have skip : (∀ b : AA, b.n = a.n → (∀ t ∈ readsOf ops o, b.get t = a.get t) → ∀ E (y : Act), RT E b y.tmps → Region.wanted o (Go.yielded ops y.tmps) = false) → Step1 P ops o a h undef false h :=
    fun hw => ⟨fun _ => rfl, (fun hq => by cases hq), fun b hn hb ro E w y K W r rt hK => by rw [if_neg (by rw [hw b hn hb E y rt]; simp)]; exact hK E w undef r (.refl E w) rv_undef,
      fun _ g b hn hb ro E w y K W r rt hK => by rw [if_neg (by rw [hw b hn hb E y rt]; simp)]; exact hK E w undef r (.refl E w) rv_undef⟩
  unfold wpG at hh
  split at hh
  · rename_i hg
    obtain ⟨v, q, h', s, hk⟩ := run _ hh fun b _ _ E y _ => by unfold Region.wanted; rw [hg]
    exact ⟨v, q, h', s, hk⟩
  · rename_i j want hg
    have hrd : ∀ d, (ops[j]?).bind (·.dst) = some d → d ∈ readsOf ops o := fun d hd => by simp [readsOf, hg, hd]
    split at hh
    · rename_i d hd
      split at hh
      · rename_i hlt
        obtain ⟨x, hx, hh⟩ := oq_eq hh
        have wn : ∀ b : AA, b.n = a.n → (∀ t ∈ readsOf ops o, b.get t = a.get t) → ∀ E (y : Act), RT E b y.tmps → Region.wanted o (Go.yielded ops y.tmps) = ((match x with | .bool c => some c | _ => none) == some want) := by
          intro b hn hb E y rt
          have hbd : b.get d = some x := by rw [hb d (hrd d hd)]; exact hx
          have hkn : b.knows ops o = true := by
            unfold AA.knows
            rw [hg]
            simp only [hd, hn, hlt, if_true, hbd, Option.isSome_some]
          rw [← rt.yielded ops hkn]
          unfold Region.wanted AA.yielded
          rw [hg]
          simp only [hd, hn, hlt, if_true, hbd]
          cases x <;> rfl
        rw [guardQ_iff] at hh
        unfold guardI at hh
        cases x with
        | bool c =>
          simp only at hh
          split at hh
          · rename_i e
            obtain ⟨v, q, h', s, hk⟩ := run _ hh fun b hn hb E y rt => by rw [wn b hn hb E y rt]; simp [e]
            exact ⟨v, q, h', s, hk⟩
          · rename_i e
            exact ⟨undef, false, h, skip fun b hn hb E y rt => by rw [wn b hn hb E y rt]; simp [e], hh⟩
        | _ => exact ⟨undef, false, h, skip fun b hn hb E y rt => by rw [wn b hn hb E y rt]; rfl, hh⟩
      · rename_i hlt
        refine ⟨undef, false, h, skip fun b hn hb E y rt => ?_, hh⟩
        have hkn : b.knows ops o = true := by
          unfold AA.knows
          rw [hg]
          simp only [hd, hn, hlt, if_false]
        rw [← rt.yielded ops hkn]
        unfold Region.wanted AA.yielded
        rw [hg]
        simp only [hd, hn, hlt, if_false]
        rfl
    · rename_i hd
      refine ⟨undef, false, h, skip fun b hn hb E y rt => ?_, hh⟩
      have hkn : b.knows ops o = true := by
        unfold AA.knows
        rw [hg]
        simp only [hd]
      rw [← rt.yielded ops hkn]
      unfold Region.wanted AA.yielded
      rw [hg]
      simp only [hd]
      rfl


theorem wpX_cons {P : Program} {ops : Array Oper} {o : Oper} {l : List Oper} {a : AA} {h : AH} {Q : AA → AH → Prop} : wpX P ops (o :: l) a h Q = wpG P ops o a h fun v h' => wpX P ops l (a.put o.dst v) h' Q := rfl

theorem step1 {P : Program} {ops : Array Oper} {o : Oper} {l : List Oper} {a : AA} {h : AH} {Q : AA → AH → Prop} (hh : wpX P ops (o :: l) a h Q) :
    ∃ v q h', Step1 P ops o a h v q h' ∧ wpX P ops l (a.put o.dst v) h' Q := stepG (wpX_cons ▸ hh)

/-- the run in the order of the text, step by step -/
inductive Run1 (P : Program) (ops : Array Oper) : List Oper → AA → AH → List Rec → AA → AH → Prop
  | nil (a : AA) (h : AH) : Run1 P ops [] a h [] a h
  | cons {o : Oper} {l : List Oper} {a a₂ : AA} {h h' h₂ : AH} {v : Value} {q : Bool} {rs : List Rec} (s : Step1 P ops o a h v q h') (t : Run1 P ops l (a.put o.dst v) h' rs a₂ h₂) :
      Run1 P ops (o :: l) a h (⟨o, a, h, v, q, h'⟩ :: rs) a₂ h₂

theorem wpX_run {P : Program} {ops : Array Oper} {Q : AA → AH → Prop} : ∀ {l : List Oper} {a : AA} {h : AH}, wpX P ops l a h Q → ∃ rs a₂ h₂, Run1 P ops l a h rs a₂ h₂ ∧ Q a₂ h₂ := by
  intro l
  induction l with
  | nil => intro a h hh; exact ⟨[], a, h, .nil a h, hh⟩
  | cons o l ih =>
    intro a h hh
    obtain ⟨v, q, h', s, hh⟩ := step1 hh
    obtain ⟨rs, a₂, h₂, t, hq⟩ := ih hh
    exact ⟨_, a₂, h₂, .cons s t, hq⟩

section
variable {P : Program} {ops : Array Oper}

theorem Run1.get {l : List Oper} {a a₂ : AA} {h h₂ : AH} {rs : List Rec} (ht : Run1 P ops l a h rs a₂ h₂) :
    rs.length = l.length ∧ (∀ (i : Nat) r, rs[i]? = some r → l[i]? = some r.o ∧ Step1 P ops r.o r.a r.h r.v r.q r.h') ∧
    (∀ r, rs[0]? = some r → r.a = a ∧ r.h = h) ∧ (∀ (i : Nat) r q, rs[i]? = some r → rs[i + 1]? = some q → q.a = r.a.put r.o.dst r.v ∧ q.h = r.h') ∧
    (rs = [] → a₂ = a ∧ h₂ = h) ∧ (∀ r, rs[rs.length - 1]? = some r → a₂ = r.a.put r.o.dst r.v ∧ h₂ = r.h') := by
  induction ht with
  | nil a h => simp
  | @cons o l a a₂ h h' h₂ v q rs s t ih =>
    obtain ⟨q1, q2, q3, q4, q5, q6⟩ := ih
    refine ⟨by simp [q1], fun i r hr => ?_, fun r hr => ?_, fun i r q hr hq => ?_, (fun e => by cases e), fun r hr => ?_⟩
    · cases i with
      | zero => simp at hr; subst hr; exact ⟨rfl, s⟩
      | succ i => simpa using q2 i r (by simpa using hr)
    · simp at hr; subst hr; exact ⟨rfl, rfl⟩
    · cases i with
      | zero =>
        simp at hr hq; subst hr
        obtain ⟨g1, g2⟩ := q3 q (by simpa using hq)
        exact ⟨g1, g2⟩
      | succ i => exact q4 i r q (by simpa using hr) (by simpa using hq)
    · cases hrs : rs with
      | nil =>
        subst hrs
        simp at hr; subst hr
        exact q5 rfl
      | cons r0 rs0 =>
        refine q6 r ?_
        rw [hrs] at hr ⊢
        simpa using hr

theorem Run1.rnd {l : List Oper} {a a₂ : AA} {h h₂ : AH} {rs : List Rec} (ht : Run1 P ops l a h rs a₂ h₂) : a₂.rnd = a.rnd := by
  induction ht with
  | nil a h => rfl
  | cons s t ih => rw [ih, AA.put_rnd]

theorem Run1.vals {a a₂ : AA} {h h₂ : AH} {rs : List Rec} (ht : Run1 P ops ops.toList a h rs a₂ h₂) : (∀ (i : Nat) r, rs[i]? = some r → r.a.n = a.n ∧ ∀ t, r.a.get t = valT rs a t (lastB (writesAt rs a.n t) i)) ∧
    a₂.n = a.n ∧ ∀ t, a₂.get t = valT rs a t (lastB (writesAt rs a.n t) ops.size) := by
  obtain ⟨q1, q2, q3, q4, q5, q6⟩ := ht.get
  have put : ∀ (r : Rec) (t i : Nat), rs[i]? = some r → r.a.n = a.n → r.a.get t = valT rs a t (lastB (writesAt rs a.n t) i) → (r.a.put r.o.dst r.v).get t = valT rs a t (lastB (writesAt rs a.n t) (i + 1)) := by
    intro r t i hp g1 g2
    simp only [lastB, writesAt, hp]
    cases hd : r.o.dst with
    | none => simp only [AA.put]; rw [g2]; rfl
    | some d =>
      rw [AA.get_put, g1]
      by_cases hdt : d = t ∧ d < a.n
      · obtain ⟨rfl, hdn⟩ := hdt
        simp [hdn, valT, hp]
      · rw [if_neg hdt, g2]
        have : (some d == some t && decide (t < a.n)) = false := by
          rw [Bool.and_eq_false_iff]
          by_cases e : d = t
          · subst e; right; simpa using fun h => hdt ⟨rfl, h⟩
          · left; simpa using e
        rw [this]
        rfl
  have key : ∀ (i : Nat) r, rs[i]? = some r → r.a.n = a.n ∧ ∀ t, r.a.get t = valT rs a t (lastB (writesAt rs a.n t) i) := by
    intro i
    induction i with
    | zero => intro r hr; rw [(q3 r hr).1]; exact ⟨rfl, fun t => rfl⟩
    | succ i ih =>
      intro r hr
      have hlt : i < rs.length := by have := (List.getElem?_eq_some_iff.1 hr).1; omega
      have hp : rs[i]? = some rs[i] := List.getElem?_eq_getElem hlt
      obtain ⟨g1, g2⟩ := ih rs[i] hp
      rw [(q4 i rs[i] r hp hr).1]
      exact ⟨by rw [put_n, g1], fun t => put _ t i hp g1 (g2 t)⟩
  refine ⟨key, ?_⟩
  have q1' : rs.length = ops.size := by rw [q1]; simp
  cases hn : ops.size with
  | zero =>
    have : rs = [] := List.eq_nil_of_length_eq_zero (by omega)
    rw [(q5 this).1]
    exact ⟨rfl, fun t => rfl⟩
  | succ i =>
    have hlt : i < rs.length := by omega
    have hp : rs[i]? = some rs[i] := List.getElem?_eq_getElem hlt
    obtain ⟨g1, g2⟩ := key i rs[i] hp
    rw [(q6 rs[i] (by rw [q1', hn]; exact hp)).1]
    exact ⟨by rw [put_n, g1], fun t => put _ t i hp g1 (g2 t)⟩

end

/-- the edges put all in order that must be -/
def orderedB (P : Program) (ops : Array Oper) : Bool :=
  staticB ops && (let pl := clo ops.toList []
    below ops.size fun i => below ops.size fun k => match ops[i]?, ops[k]? with
      | some x, some y => if loud P y then (if loud P x then !decide (k < i) || (pl.getD i []).contains k else freeO x || (pl.getD i []).contains k || (pl.getD k []).contains i) else true
      | _, _ => true)


theorem draw_ordered {P : Program} {ops : Array Oper} (hob : orderedB P ops = true) {a : AA} {h : AH} {Q : AA → AH → Prop} (hh : wpX P ops ops.toList a h Q) {id : Nat} {ro : Option Nat} {D : List Deferred} {E : Ren} {w : World} {x : Act}
    {W : Exit → Act → World → Prop} (r : RW P E h w) (rt : RT E a x.tmps) (hdf : x.defers = D)
    (hQ : ∀ a₂ h₂ E' w' y, Q a₂ h₂ → a₂.rnd = a.rnd → RW P E' h₂ w' → Ext E w E' w' → RT E' a₂ y.tmps → y.defers = D → W .normal y w') : (Code.region id ops true).wpR ro P W x w := by
  obtain ⟨rs, a₂, h₂, ht, hq⟩ := wpX_run hh
  have hrnd := ht.rnd
  obtain ⟨q1, q2, q3, q4, q5, q6⟩ := ht.get
  obtain ⟨vals, hn₂, hv₂⟩ := ht.vals
  have q1' : rs.length = ops.size := by rw [q1]; simp
  unfold orderedB at hob
  rw [Bool.and_eq_true] at hob
  obtain ⟨hst, hord⟩ := hob
  unfold staticB at hst
  simp only [Bool.and_eq_true] at hst
  obtain ⟨hback, hst⟩ := hst
  have hops : ∀ (i : Nat) y, rs[i]? = some y → ops[i]? = some y.o ∧ i < ops.size := by
    intro i y hy
    refine ⟨?_, by have := (List.getElem?_eq_some_iff.1 hy).1; omega⟩
    have := (q2 i y hy).1
    simpa using this
  -- the trace, with just what is read known ahead of each operation
  let rs' : List Rec := rs.map fun r => { r with a := r.a.keep (readsOf ops r.o) }
  have hrs' : ∀ (i : Nat) y, rs'[i]? = some y → ∃ r, rs[i]? = some r ∧ y = { r with a := r.a.keep (readsOf ops r.o) } := by
    intro i y hy
    simp only [rs', List.getElem?_map, Option.map_eq_some_iff] at hy
    obtain ⟨r, h1, h2⟩ := hy
    exact ⟨r, h1, h2.symm⟩
  have keepGet : ∀ (r : Rec), ∀ t ∈ readsOf ops r.o, (r.a.keep (readsOf ops r.o)).get t = r.a.get t := fun r t ht => AA.keep_mem r.a (readsOf ops r.o) t ht
  have valT' : ∀ t q, valT rs' a t q = valT rs a t q := by
    intro t q
    unfold valT
    cases q with
    | none => rfl
    | some k =>
      simp only [rs', List.getElem?_map]
      cases rs[k]? <;> rfl
  have wr' : ∀ t, writesAt rs' a.n t = writesAt rs a.n t := by
    intro t; funext k
    unfold writesAt
    simp only [rs', List.getElem?_map]
    cases rs[k]? <;> rfl
  have ld' : loudAt rs' = loudAt rs := by
    funext k
    unfold loudAt
    simp only [rs', List.getElem?_map]
    cases rs[k]? <;> rfl
  have loudS : ∀ i, loudAt rs i = true → ∃ y, ops[i]? = some y ∧ loud P y = true ∧ i < ops.size := by
    intro i hi
    unfold loudAt at hi
    split at hi
    · rename_i y hy
      obtain ⟨o1, l1⟩ := hops i y hy
      exact ⟨y.o, o1, (q2 i y hy).2.loud hi, l1⟩
    · cases hi
  have htr : TraceW P ops rs' a h h₂ := by
    refine ⟨by simp [rs', q1'], fun i y hy => ?_, fun y hy => ?_, fun i y z hy hz => ?_, ⟨fun e => ?_, fun y hy => ?_⟩, fun i y hy => ?_, fun i y hy => ?_, fun i y hy hq => ?_⟩
    · obtain ⟨r, h1, rfl⟩ := hrs' i y hy; exact (hops i r h1).1
    · obtain ⟨r, h1, rfl⟩ := hrs' 0 y hy; exact (q3 r h1).2
    · obtain ⟨r, h1, rfl⟩ := hrs' i y hy
      obtain ⟨s, h2, rfl⟩ := hrs' (i + 1) z hz
      exact (q4 i r s h1 h2).2
    · have : rs = [] := by
        have := congrArg List.length e
        simp [rs'] at this
        exact this
      exact (q5 this).2
    · have e : rs'.length = rs.length := by simp [rs']
      rw [e] at hy
      obtain ⟨r, h1, rfl⟩ := hrs' _ y hy
      exact (q6 r h1).2
    · obtain ⟨r, h1, rfl⟩ := hrs' i y hy
      refine ⟨by rw [AA.keep_n]; exact (vals i r h1).1, fun t v hv => ?_⟩
      have hm := AA.keep_only r.a (readsOf ops r.o) t v hv
      refine ⟨?_, hm⟩
      rw [wr', valT', ← (vals i r h1).2 t]
      exact AA.keep_get r.a _ t v hv
    · obtain ⟨r, h1, rfl⟩ := hrs' i y hy
      exact (q2 i r h1).2.step _ (AA.keep_n _ _) (keepGet r)
    · obtain ⟨r, h1, rfl⟩ := hrs' i y hy
      exact (q2 i r h1).2.quiet hq
  have how : OrderedW P ops rs' a.n h fun i => (clo ops.toList []).getD i [] := by
    refine ⟨fun m i l hg j hj => clo_ahead ops.toList [] (by simp) (by simp) (fun i j hj => by simp at hj) i j hj m l hg, fun i k x y d hx hy hne hd hlt hr => ?_, fun i k hi hk hki => ?_, ?_⟩
    · obtain ⟨x', hx', rfl⟩ := hrs' i x hx
      obtain ⟨y', hy', rfl⟩ := hrs' k y hy
      obtain ⟨o1, l1⟩ := hops i x' hx'
      obtain ⟨o2, l2⟩ := hops k y' hy'
      have t1 := below_at (below_at hst l1) l2
      simp only [o1, o2, Bool.or_eq_true, beq_iff_eq, hne, false_or] at t1
      rw [show y'.o.dst = some d from hd] at t1
      simp only at t1
      rw [if_pos (by simpa using hr)] at t1
      refine ⟨fun hk => ?_, fun hk => ?_⟩
      · rw [if_pos hk] at t1; simpa using t1
      · rw [if_neg (by omega)] at t1; simpa using t1
    · rw [ld'] at hi hk
      obtain ⟨x, o1, s1, l1⟩ := loudS i hi
      obtain ⟨y, o2, s2, l2⟩ := loudS k hk
      have := below_at (below_at hord l1) l2
      simp only [o1, o2, s1, s2, if_true, Bool.or_eq_true, Bool.not_eq_true', decide_eq_false_iff_not] at this
      rcases this with h | h
      · exact absurd hki h
      · simpa using h
    · intro i y hy hq q hql hf1 hf2
      obtain ⟨r, h1, rfl⟩ := hrs' i y hy
      have hs := (q2 i r h1).2
      obtain ⟨o1, l1⟩ := hops i r h1
      by_cases hfr : freeO r.o = true
      · exact hs.free hfr _ _ (AA.keep_n _ _) (keepGet r)
      · -- in order with all that may change the heap: where it runs the heap is as in the order of the text
        have hh := htr.heap i _ hy
        have hst2 := htr.step i _ hy
        have hqt := htr.quiet i _ hy hq
        simp only at hqt hst2 hh
        rw [hqt] at hst2
        rw [hh] at hst2
        have heq : q = lastB (loudAt rs') i ∨ heapT rs' h q = heapT rs' h (lastB (loudAt rs') i) := by
          left
          have hrel : ∀ k, loudAt rs' k = true → k ≠ i → k ∈ (clo ops.toList []).getD i [] ∨ i ∈ (clo ops.toList []).getD k [] := by
            intro k hk hne
            rw [ld'] at hk
            obtain ⟨y, o2, s2, l2⟩ := loudS k hk
            have := below_at (below_at hord l1) l2
            simp only [o1, o2, s2, if_true] at this
            by_cases hlx : loud P r.o = true
            · rw [if_pos hlx] at this
              -- a loud operation that stayed quiet (it was not wanted): in order with the others all the same
              have t2 := below_at (below_at hord l2) l1
              simp only [o1, o2, s2, hlx, if_true, Bool.or_eq_true, Bool.not_eq_true', decide_eq_false_iff_not] at this t2
              rcases Nat.lt_or_gt_of_ne hne with h | h
              · rcases this with h' | h'
                · exact absurd h h'
                · left; simpa using h'
              · rcases t2 with h' | h'
                · exact absurd h h'
                · right; simpa using h'
            · rw [if_neg hlx] at this
              simp only [hfr, Bool.false_or, Bool.or_eq_true] at this
              rcases this with h | h
              · left; simpa using h
              · right; simpa using h
          have hlt : ∀ k, k ∈ (clo ops.toList []).getD i [] → k < i := fun k hk => clo_lt hback i k hk
          have hlt2 : ∀ k, i ∈ (clo ops.toList []).getD k [] → i < k := fun k hk => clo_lt hback k i hk
          cases hb : lastB (loudAt rs') i with
          | none =>
            cases q with
            | none => rfl
            | some l =>
              exfalso
              have hl := hql l rfl
              have hne : l ≠ i := by
                rintro rfl
                unfold loudAt at hl
                rw [hy] at hl
                simp only at hl
                rw [hq] at hl; cases hl
              rcases hrel l hl hne with h | h
              · have := lastB_none hb l (hlt l h)
                rw [hl] at this; cases this
              · exact hf2 l hl ⟨l, rfl, Nat.le_refl _⟩ h
          | some m =>
            obtain ⟨m1, m2, m3⟩ := lastB_some hb
            have hmi : m ∈ (clo ops.toList []).getD i [] := by
              rcases hrel m m2 (by omega) with h | h
              · exact h
              · have := hlt2 m h; omega
            obtain ⟨l, rfl, hle⟩ := hf1 m hmi m2
            have hl := hql l rfl
            have hne : l ≠ i := by
              rintro rfl
              unfold loudAt at hl
              rw [hy] at hl
              simp only at hl
              rw [hq] at hl; cases hl
            rcases hrel l hl hne with h | h
            · have := m3 l (hlt l h) hl
              have : l = m := by omega
              rw [this]
            · exact absurd h (hf2 l hl ⟨l, rfl, Nat.le_refl _⟩)
        rcases heq with e | e
        · rw [e]; exact hst2
        · rw [e]; exact hst2
  refine wpR_region_draw fun t => ?_
  obtain ⟨m, l, e, hg, hl⟩ := schedule_good (mixed := P.follows .mixedOrders) hback t
  rw [e]
  have rd : RW P E h { w with drawn := w.drawn + 1 } := r.of_heap rfl
  exact draw_wpW htr how hn₂ (fun t v hv => by rw [wr', valT', ← hv₂ t]; exact hv) rd rt hdf (fun E' w' y p1 p2 p3 p4 => hQ a₂ h₂ E' w' y hq hrnd p1 (p2.of_heap rfl rfl rfl rfl (Nat.le_succ _)) p3 p4) hg hl

end Go.Ab

/- AbDrawZ -/
namespace Go.Ab
set_option linter.unusedVariables false
set_option linter.unusedSimpArgs false

def qcall (o : Oper) : Bool := match o.op with
  | .call c => match c.callee with
    | .builtin _ => false
    | _ => true
  | _ => false

/-- what may change the heap, if no call of a function does -/
def loudZ (P : Program) (o : Oper) : Bool := loud P o && !qcall o

def wpZ1 (P : Program) (ops : Array Oper) (o : Oper) (a : AA) (h : AH) (k : Value → AH → Prop) : Prop :=
  if qcall o then wpG P ops o a h fun v g => g = h ∧ k v h else wpG P ops o a h k

def wpZ (P : Program) (ops : Array Oper) : List Oper → AA → AH → List Rec → (List Rec → AA → AH → Prop) → Prop
  | [], a, h, rs, K => K rs a h
  | o :: l, a, h, rs, K => wpZ1 P ops o a h fun v h' => wpZ P ops l (a.put o.dst v) h' (rs ++ [⟨o, a, h, v, loudZ P o, h'⟩]) K

structure SZ (P : Program) (ops : Array Oper) (o : Oper) (a : AA) (h : AH) (v : Value) (q : Bool) (h' : AH) : Prop where
  loud : q = loudZ P o
  quiet : q = false → h' = h
  step : ∀ b : AA, b.n = a.n → (∀ t ∈ readsOf ops o, b.get t = a.get t) → StepW P ops o b h v h'
  free : freeO o = true → ∀ (g : AH) (b : AA), b.n = a.n → (∀ t ∈ readsOf ops o, b.get t = a.get t) → StepW P ops o b g v g

theorem stepZ {P : Program} {ops : Array Oper} {o : Oper} {a : AA} {h : AH} {k : Value → AH → Prop} (hh : wpZ1 P ops o a h k) : ∃ v h', SZ P ops o a h v (loudZ P o) h' ∧ k v h' := by
  unfold wpZ1 at hh
  split at hh
  · rename_i hq
    obtain ⟨v, q, h', s, e, hk⟩ := stepG hh
    subst e
    exact ⟨v, h', ⟨rfl, fun _ => rfl, s.step, s.free⟩, hk⟩
  · rename_i hq
    obtain ⟨v, q, h', s, hk⟩ := stepG hh
    refine ⟨v, h', ⟨rfl, fun e => ?_, s.step, s.free⟩, hk⟩
    cases q with
    | false => exact s.quiet rfl
    | true =>
      have := s.loud rfl
      unfold loudZ at e
      rw [this] at e
      simp only [Bool.true_and, Bool.not_eq_false'] at e
      exact absurd e hq

theorem any_of {α : Type} {p : α → Bool} {o : Option α} (h : o.any p = true) : ∃ x, o = some x ∧ p x = true := by
  cases o with
  | none => cases h
  | some x => exact ⟨x, rfl, h⟩

inductive RunZ (P : Program) (ops : Array Oper) : List Oper → AA → AH → List Rec → AA → AH → Prop
  | nil (a : AA) (h : AH) : RunZ P ops [] a h [] a h
  | cons {o : Oper} {l : List Oper} {a a₂ : AA} {h h' h₂ : AH} {v : Value} {q : Bool} {rs : List Rec} (s : SZ P ops o a h v q h') (t : RunZ P ops l (a.put o.dst v) h' rs a₂ h₂) :
      RunZ P ops (o :: l) a h (⟨o, a, h, v, q, h'⟩ :: rs) a₂ h₂

theorem wpZ_run {P : Program} {ops : Array Oper} {K : List Rec → AA → AH → Prop} : ∀ {l : List Oper} {a : AA} {h : AH} {rs : List Rec}, wpZ P ops l a h rs K → ∃ rs' a₂ h₂, RunZ P ops l a h rs' a₂ h₂ ∧ K (rs ++ rs') a₂ h₂ := by
  intro l
  induction l with
  | nil => intro a h rs hh; exact ⟨[], a, h, .nil a h, by rw [List.append_nil]; exact hh⟩
  | cons o l ih =>
    intro a h rs hh
    obtain ⟨v, h', s, hh⟩ := stepZ hh
    obtain ⟨rs', a₂, h₂, t, hq⟩ := ih hh
    exact ⟨_, a₂, h₂, .cons s t, by simpa using hq⟩

section
variable {P : Program} {ops : Array Oper}

theorem RunZ.get {l : List Oper} {a a₂ : AA} {h h₂ : AH} {rs : List Rec} (ht : RunZ P ops l a h rs a₂ h₂) :
    rs.length = l.length ∧ (∀ (i : Nat) r, rs[i]? = some r → l[i]? = some r.o ∧ SZ P ops r.o r.a r.h r.v r.q r.h') ∧
    (∀ r, rs[0]? = some r → r.a = a ∧ r.h = h) ∧ (∀ (i : Nat) r q, rs[i]? = some r → rs[i + 1]? = some q → q.a = r.a.put r.o.dst r.v ∧ q.h = r.h') ∧
    (rs = [] → a₂ = a ∧ h₂ = h) ∧ (∀ r, rs[rs.length - 1]? = some r → a₂ = r.a.put r.o.dst r.v ∧ h₂ = r.h') := by
  induction ht with
  | nil a h => simp
  | @cons o l a a₂ h h' h₂ v q rs s t ih =>
    obtain ⟨q1, q2, q3, q4, q5, q6⟩ := ih
    refine ⟨by simp [q1], fun i r hr => ?_, fun r hr => ?_, fun i r q hr hq => ?_, (fun e => by cases e), fun r hr => ?_⟩
    · cases i with
      | zero => simp at hr; subst hr; exact ⟨rfl, s⟩
      | succ i => simpa using q2 i r (by simpa using hr)
    · simp at hr; subst hr; exact ⟨rfl, rfl⟩
    · cases i with
      | zero =>
        simp at hr hq; subst hr
        obtain ⟨g1, g2⟩ := q3 q (by simpa using hq)
        exact ⟨g1, g2⟩
      | succ i => exact q4 i r q (by simpa using hr) (by simpa using hq)
    · cases hrs : rs with
      | nil =>
        subst hrs
        simp at hr; subst hr
        exact q5 rfl
      | cons r0 rs0 =>
        refine q6 r ?_
        rw [hrs] at hr ⊢
        simpa using hr

theorem RunZ.rnd {l : List Oper} {a a₂ : AA} {h h₂ : AH} {rs : List Rec} (ht : RunZ P ops l a h rs a₂ h₂) : a₂.rnd = a.rnd := by
  induction ht with
  | nil a h => rfl
  | cons s t ih => rw [ih, AA.put_rnd]

theorem RunZ.vals {a a₂ : AA} {h h₂ : AH} {rs : List Rec} (ht : RunZ P ops ops.toList a h rs a₂ h₂) : (∀ (i : Nat) r, rs[i]? = some r → r.a.n = a.n ∧ ∀ t, r.a.get t = valT rs a t (lastB (writesAt rs a.n t) i)) ∧
    a₂.n = a.n ∧ ∀ t, a₂.get t = valT rs a t (lastB (writesAt rs a.n t) ops.size) := by
  obtain ⟨q1, q2, q3, q4, q5, q6⟩ := ht.get
  have put : ∀ (r : Rec) (t i : Nat), rs[i]? = some r → r.a.n = a.n → r.a.get t = valT rs a t (lastB (writesAt rs a.n t) i) → (r.a.put r.o.dst r.v).get t = valT rs a t (lastB (writesAt rs a.n t) (i + 1)) := by
    intro r t i hp g1 g2
    simp only [lastB, writesAt, hp]
    cases hd : r.o.dst with
    | none => simp only [AA.put]; rw [g2]; rfl
    | some d =>
      rw [AA.get_put, g1]
      by_cases hdt : d = t ∧ d < a.n
      · obtain ⟨rfl, hdn⟩ := hdt
        simp [hdn, valT, hp]
      · rw [if_neg hdt, g2]
        have : (some d == some t && decide (t < a.n)) = false := by
          rw [Bool.and_eq_false_iff]
          by_cases e : d = t
          · subst e; right; simpa using fun h => hdt ⟨rfl, h⟩
          · left; simpa using e
        rw [this]
        rfl
  have key : ∀ (i : Nat) r, rs[i]? = some r → r.a.n = a.n ∧ ∀ t, r.a.get t = valT rs a t (lastB (writesAt rs a.n t) i) := by
    intro i
    induction i with
    | zero => intro r hr; rw [(q3 r hr).1]; exact ⟨rfl, fun t => rfl⟩
    | succ i ih =>
      intro r hr
      have hlt : i < rs.length := by have := (List.getElem?_eq_some_iff.1 hr).1; omega
      have hp : rs[i]? = some rs[i] := List.getElem?_eq_getElem hlt
      obtain ⟨g1, g2⟩ := ih rs[i] hp
      rw [(q4 i rs[i] r hp hr).1]
      exact ⟨by rw [put_n, g1], fun t => put _ t i hp g1 (g2 t)⟩
  refine ⟨key, ?_⟩
  have q1' : rs.length = ops.size := by rw [q1]; simp
  cases hn : ops.size with
  | zero =>
    have : rs = [] := List.eq_nil_of_length_eq_zero (by omega)
    rw [(q5 this).1]
    exact ⟨rfl, fun t => rfl⟩
  | succ i =>
    have hlt : i < rs.length := by omega
    have hp : rs[i]? = some rs[i] := List.getElem?_eq_getElem hlt
    obtain ⟨g1, g2⟩ := key i rs[i] hp
    rw [(q6 rs[i] (by rw [q1', hn]; exact hp)).1]
    exact ⟨by rw [put_n, g1], fun t => put _ t i hp g1 (g2 t)⟩

end


/-- can an operation run when just the loud ones up to q have? -/
def feasZ (P : Program) (ops : Array Oper) (pl : List (List Nat)) (i : Nat) (q : Option Nat) : Bool :=
  ((pl.getD i []).all fun p => !((ops[p]?).any (loudZ P)) || (match q with | some l => decide (p ≤ l) | none => false)) &&
  (match q with | some l => below (l + 1) fun l' => !((ops[l']?).any (loudZ P)) || !(pl.getD l' []).contains i | none => true)

/-- where quiet operations may run, too -/
def pairsZ (P : Program) (ops : Array Oper) : List (Nat × Option Nat) :=
  let pl := clo ops.toList []
  (List.range ops.size).flatMap fun i => match ops[i]? with
    | some o => if loudZ P o || freeO o then [] else
      (none :: ((List.range ops.size).filter fun k => (ops[k]?).any (loudZ P)).map some).filterMap fun q =>
        if feasZ P ops pl i q && !(q == lastB (fun k => (ops[k]?).any (loudZ P)) i) then some (i, q) else none
    | none => []

def obligZ (P : Program) (ops : Array Oper) (rs : List Rec) (h : AH) : List (Nat × Option Nat) → Prop
  | [] => True
  | (i, q) :: l => (match rs[i]? with
    | some r => wpZ1 P ops r.o r.a (heapT rs h q) fun v g => v = r.v ∧ g = heapT rs h q
    | none => False) ∧ obligZ P ops rs h l

theorem obligZ_mem {P : Program} {ops : Array Oper} {rs : List Rec} {h : AH} : ∀ {l : List (Nat × Option Nat)}, obligZ P ops rs h l → ∀ {i q r}, (i, q) ∈ l → rs[i]? = some r → wpZ1 P ops r.o r.a (heapT rs h q) fun v g => v = r.v ∧ g = heapT rs h q := by
  intro l
  induction l with
  | nil => intro _ i q r hm; cases hm
  | cons x l ih =>
    intro ho i q r hm hr
    obtain ⟨j, p⟩ := x
    obtain ⟨h1, h2⟩ := ho
    rcases List.mem_cons.1 hm with e | hm
    · cases e
      rw [hr] at h1
      exact h1
    · exact ih h2 hm hr

def orderedZ (P : Program) (ops : Array Oper) : Bool :=
  staticB ops && (let pl := clo ops.toList []
    below ops.size fun i => below ops.size fun k => match ops[i]?, ops[k]? with
      | some x, some y => !(loudZ P x && loudZ P y && decide (k < i)) || (pl.getD i []).contains k
      | _, _ => true)

theorem draw_Z {P : Program} {ops : Array Oper} (hob : orderedZ P ops = true) {a : AA} {h : AH} {Q : AA → AH → Prop} (hh : wpZ P ops ops.toList a h [] fun rs a₂ h₂ => obligZ P ops rs h (pairsZ P ops) ∧ Q a₂ h₂)
    {id : Nat} {ro : Option Nat} {D : List Deferred} {E : Ren} {w : World} {x : Act}
    {W : Exit → Act → World → Prop} (r : RW P E h w) (rt : RT E a x.tmps) (hdf : x.defers = D)
    (hQ : ∀ a₂ h₂ E' w' y, Q a₂ h₂ → a₂.rnd = a.rnd → RW P E' h₂ w' → Ext E w E' w' → RT E' a₂ y.tmps → y.defers = D → W .normal y w') : (Code.region id ops true).wpR ro P W x w := by
  obtain ⟨rs, a₂, h₂, ht, hob2, hq⟩ := wpZ_run hh
  rw [List.nil_append] at hob2
  have hrnd := ht.rnd
  obtain ⟨q1, q2, q3, q4, q5, q6⟩ := ht.get
  obtain ⟨vals, hn₂, hv₂⟩ := ht.vals
  have q1' : rs.length = ops.size := by rw [q1]; simp
  unfold orderedZ at hob
  rw [Bool.and_eq_true] at hob
  obtain ⟨hst, hord⟩ := hob
  unfold staticB at hst
  simp only [Bool.and_eq_true] at hst
  obtain ⟨hback, hst⟩ := hst
  have hops : ∀ (i : Nat) y, rs[i]? = some y → ops[i]? = some y.o ∧ i < ops.size := by
    intro i y hy
    refine ⟨?_, by have := (List.getElem?_eq_some_iff.1 hy).1; omega⟩
    have := (q2 i y hy).1
    simpa using this
  let rs' : List Rec := rs.map fun r => { r with a := r.a.keep (readsOf ops r.o) }
  have hrs' : ∀ (i : Nat) y, rs'[i]? = some y → ∃ r, rs[i]? = some r ∧ y = { r with a := r.a.keep (readsOf ops r.o) } := by
    intro i y hy
    simp only [rs', List.getElem?_map, Option.map_eq_some_iff] at hy
    obtain ⟨r, h1, h2⟩ := hy
    exact ⟨r, h1, h2.symm⟩
  have keepGet : ∀ (r : Rec), ∀ t ∈ readsOf ops r.o, (r.a.keep (readsOf ops r.o)).get t = r.a.get t := fun r t ht => AA.keep_mem r.a (readsOf ops r.o) t ht
  have valT' : ∀ t q, valT rs' a t q = valT rs a t q := by
    intro t q
    unfold valT
    cases q with
    | none => rfl
    | some k =>
      simp only [rs', List.getElem?_map]
      cases rs[k]? <;> rfl
  have wr' : ∀ t, writesAt rs' a.n t = writesAt rs a.n t := by
    intro t; funext k
    unfold writesAt
    simp only [rs', List.getElem?_map]
    cases rs[k]? <;> rfl
  have ld' : loudAt rs' = loudAt rs := by
    funext k
    unfold loudAt
    simp only [rs', List.getElem?_map]
    cases rs[k]? <;> rfl
  have hp' : ∀ q, heapT rs' h q = heapT rs h q := by
    intro q
    unfold heapT
    cases q with
    | none => rfl
    | some k =>
      simp only [rs', List.getElem?_map]
      cases rs[k]? <;> rfl
  have lz : ∀ k, loudAt rs k = (ops[k]?).any (loudZ P) := by
    intro k
    unfold loudAt
    cases hk : rs[k]? with
    | some y =>
      obtain ⟨o1, _⟩ := hops k y hk
      rw [o1]
      simp only [Option.any_some]
      exact (q2 k y hk).2.loud
    | none =>
      have : ops.size ≤ k := by rw [← q1']; exact List.getElem?_eq_none_iff.1 hk
      rw [Array.getElem?_eq_none this]
      rfl
  have htr : TraceW P ops rs' a h h₂ := by
    refine ⟨by simp [rs', q1'], fun i y hy => ?_, fun y hy => ?_, fun i y z hy hz => ?_, ⟨fun e => ?_, fun y hy => ?_⟩, fun i y hy => ?_, fun i y hy => ?_, fun i y hy hq => ?_⟩
    · obtain ⟨r, h1, rfl⟩ := hrs' i y hy; exact (hops i r h1).1
    · obtain ⟨r, h1, rfl⟩ := hrs' 0 y hy; exact (q3 r h1).2
    · obtain ⟨r, h1, rfl⟩ := hrs' i y hy
      obtain ⟨s, h2, rfl⟩ := hrs' (i + 1) z hz
      exact (q4 i r s h1 h2).2
    · have : rs = [] := by
        have := congrArg List.length e
        simp [rs'] at this
        exact this
      exact (q5 this).2
    · have e : rs'.length = rs.length := by simp [rs']
      rw [e] at hy
      obtain ⟨r, h1, rfl⟩ := hrs' _ y hy
      exact (q6 r h1).2
    · obtain ⟨r, h1, rfl⟩ := hrs' i y hy
      refine ⟨by rw [AA.keep_n]; exact (vals i r h1).1, fun t v hv => ?_⟩
      have hm := AA.keep_only r.a (readsOf ops r.o) t v hv
      refine ⟨?_, hm⟩
      rw [wr', valT', ← (vals i r h1).2 t]
      exact AA.keep_get r.a _ t v hv
    · obtain ⟨r, h1, rfl⟩ := hrs' i y hy
      exact (q2 i r h1).2.step _ (AA.keep_n _ _) (keepGet r)
    · obtain ⟨r, h1, rfl⟩ := hrs' i y hy
      exact (q2 i r h1).2.quiet hq
  have how : OrderedW P ops rs' a.n h fun i => (clo ops.toList []).getD i [] := by
    refine ⟨fun m i l hg j hj => clo_ahead ops.toList [] (by simp) (by simp) (fun i j hj => by simp at hj) i j hj m l hg, fun i k x y d hx hy hne hd hlt hr => ?_, fun i k hi hk hki => ?_, ?_⟩
    · obtain ⟨x', hx', rfl⟩ := hrs' i x hx
      obtain ⟨y', hy', rfl⟩ := hrs' k y hy
      obtain ⟨o1, l1⟩ := hops i x' hx'
      obtain ⟨o2, l2⟩ := hops k y' hy'
      have t1 := below_at (below_at hst l1) l2
      simp only [o1, o2, Bool.or_eq_true, beq_iff_eq, hne, false_or] at t1
      rw [show y'.o.dst = some d from hd] at t1
      simp only at t1
      rw [if_pos (by simpa using hr)] at t1
      refine ⟨fun hk => ?_, fun hk => ?_⟩
      · rw [if_pos hk] at t1; simpa using t1
      · rw [if_neg (by omega)] at t1; simpa using t1
    · rw [ld', lz] at hi hk
      obtain ⟨x, o1, s1⟩ := any_of hi
      obtain ⟨y, o2, s2⟩ := any_of hk
      have l1 := (Array.getElem?_eq_some_iff.1 o1).1
      have l2 := (Array.getElem?_eq_some_iff.1 o2).1
      have := below_at (below_at hord l1) l2
      simp only [o1, o2, s1, s2, hki, Bool.true_and, decide_true, Bool.not_true, Bool.false_or] at this
      simpa using this
    · intro i y hy hq q hql hf1 hf2
      obtain ⟨r, h1, rfl⟩ := hrs' i y hy
      have hs := (q2 i r h1).2
      obtain ⟨o1, l1⟩ := hops i r h1
      by_cases hfr : freeO r.o = true
      · exact hs.free hfr _ _ (AA.keep_n _ _) (keepGet r)
      · by_cases he : q = lastB (loudAt rs') i
        · have hh := htr.heap i _ hy
          have hst2 := htr.step i _ hy
          have hqt := htr.quiet i _ hy hq
          simp only at hqt hst2 hh
          rw [hqt, hh] at hst2
          rw [he]
          exact hst2
        · have hmem : (i, q) ∈ pairsZ P ops := by
            unfold pairsZ
            simp only [List.mem_flatMap, List.mem_range]
            refine ⟨i, l1, ?_⟩
            rw [o1]
            simp only
            have hl : loudZ P r.o = false := by rw [← hs.loud]; exact hq
            rw [if_neg (by simp [hl, hfr])]
            rw [List.mem_filterMap]
            refine ⟨q, ?_, ?_⟩
            · cases q with
              | none => simp
              | some l =>
                have hll := hql l rfl
                rw [ld', lz] at hll
                obtain ⟨z, o2, s2⟩ := any_of hll
                have l2 := (Array.getElem?_eq_some_iff.1 o2).1
                simp only [List.mem_cons, List.mem_map, List.mem_filter, List.mem_range]
                exact .inr ⟨l, ⟨l2, hll⟩, rfl⟩
            · rw [if_pos]
              rw [Bool.and_eq_true]
              constructor
              · unfold feasZ
                simp only [Bool.and_eq_true, List.all_eq_true, Bool.or_eq_true, Bool.not_eq_true']
                refine ⟨fun p hp => ?_, ?_⟩
                · cases hlp : (ops[p]?).any (loudZ P) with
                  | false => exact .inl rfl
                  | true =>
                    right
                    obtain ⟨l, rfl, hle⟩ := hf1 p hp (by rw [ld', lz]; exact hlp)
                    simpa using hle
                · cases q with
                  | none => rfl
                  | some l =>
                    simp only [below, List.all_eq_true, List.mem_range, Bool.or_eq_true, Bool.not_eq_true']
                    intro l' hl'
                    cases hlp : (ops[l']?).any (loudZ P) with
                    | false => exact .inl rfl
                    | true =>
                      right
                      have := hf2 l' (by rw [ld', lz]; exact hlp) ⟨l, rfl, by omega⟩
                      simpa using this
              · simp only [Bool.not_eq_true', beq_eq_false_iff_ne, ne_eq]
                intro e
                apply he
                rw [e]
                congr 1
                funext k
                rw [ld', lz]
          have hob3 := obligZ_mem hob2 hmem h1
          obtain ⟨v, g, s2, e1, e2⟩ := stepZ hob3
          subst e1 e2
          rw [hp']
          exact s2.step _ (AA.keep_n _ _) (keepGet r)
  refine wpR_region_draw fun t => ?_
  obtain ⟨m, l, e, hg, hl⟩ := schedule_good (mixed := P.follows .mixedOrders) hback t
  rw [e]
  have rd : RW P E h { w with drawn := w.drawn + 1 } := r.of_heap rfl
  exact draw_wpW htr how hn₂ (fun t v hv => by rw [wr', valT', ← hv₂ t]; exact hv) rd rt hdf (fun E' w' y p1 p2 p3 p4 => hQ a₂ h₂ E' w' y hq hrnd p1 (p2.of_heap rfl rfl rfl rfl (Nat.le_succ _)) p3 p4) hg hl

end Go.Ab

/- AbDefer -/
namespace Go.Ab
set_option linter.unusedVariables false
set_option linter.unusedSimpArgs false

/-- how a function is being left: it returns, it panics, it did and that was recovered -/
inductive DM where
  | ret
  | pan (v : Value)
  | recd (v : Value)

def DM.rel (E : Ren) : DM → FrameMode → Prop
  | .ret, u => u = .returning
  | .pan v, u => ∃ v', u = .panicking [{ v := v', recovered := false }] ∧ RV E v v'
  | .recd v, u => ∃ v', u = .panicking [{ v := v', recovered := true }] ∧ RV E v v'

theorem DM.rel.mono {E E' : Ren} (le : E.Le E') {m : DM} {u : FrameMode} (h : m.rel E u) : m.rel E' u := by
  cases m with
  | ret => exact h
  | pan v => obtain ⟨v', h1, h2⟩ := h; exact ⟨v', h1, h2.mono le⟩
  | recd v => obtain ⟨v', h1, h2⟩ := h; exact ⟨v', h1, h2.mono le⟩

def DM.settle : DM → DM
  | .recd _ => .ret
  | m => m

theorem DM.rel.settle {E : Ren} {m : DM} {u : FrameMode} (h : m.rel E u) : m.settle.rel E (Go.settle u) := by
  cases m with
  | ret => cases h; rfl
  | pan v => obtain ⟨v', h1, h2⟩ := h; subst h1; exact ⟨v', rfl, h2⟩
  | recd v => obtain ⟨v', h1, h2⟩ := h; subst h1; rfl

theorem DM.rel.ne {E : Ren} {m : DM} {u : FrameMode} (h : m.rel E u) : u ≠ .run := by
  cases m with
  | ret => cases h; simp
  | pan v => obtain ⟨v', h1, h2⟩ := h; subst h1; simp
  | recd v => obtain ⟨v', h1, h2⟩ := h; subst h1; simp

def isRecover : Op → Bool
  | .call c => match c.callee with
    | .builtin .recover => true
    | _ => false
  | _ => false

def dOps (P : Program) (ops : Array Oper) : List Nat → AA → AH → DM → Option (AA × AH × DM)
  | [], a, h, m => some (a, h, m)
  | i :: rest, a, h, m =>
    match ops[i]? with
    | none => dOps P ops rest a h m
    | some o =>
      if a.knows ops o then
      if Region.wanted o (a.yielded ops) then
        if isRecover o.op then match m with
          | .pan v => dOps P ops rest (a.put o.dst v) h (.recd v)
          | m => dOps P ops rest (a.put o.dst .nilIface) h m
        else match absOp P (a.opnd P) o h with
        | some (.val v h') => dOps P ops rest (a.put o.dst v) h' m
        | some (.unit h') => dOps P ops rest (a.put o.dst undef) h' m
        | _ => none
      else dOps P ops rest (a.put o.dst undef) h m
      else none

def dCode (P : Program) : Code → AA → AH → DM → Option (AX × AA × AH × DM)
  | .skip, a, h, m | .label _, a, h, m => some (.normal, a, h, m)
  | .region _ ops draw, a, h, m => if draw then none else match dOps P ops (List.range ops.size) a h m with
    | some (a', h', m') => some (.normal, a', h', m')
    | none => none
  | .seq x y, a, h, m => match dCode P x a h m with
    | some (.normal, a', h', m') => dCode P y a' h' m'
    | r => r
  | .cond c x y, a, h, m => match a.opnd P c with
    | some (.bool true) => dCode P x a h m
    | some (.bool false) => dCode P y a h m
    | _ => none
  | .ret, a, h, m => some (.ret, a, h, m)
  | _, _, _, _ => none

/-- a deferred call -/
def dRun (P : Program) (f : FuncId) (args : List Value) (h : AH) (m : DM) : Option (AH × DM) := match P.funcs[f]? with
  | some fn => if fn.name == "runtime.NumGoroutine" then none else match fn.body with
    | some c => match dCode P c ⟨tmsOf 0 args .leaf, args.length + (fn.ntmps - args.length), {}⟩ h m with
      | some (.normal, a, h', m') | some (.ret, a, h', m') => match resultsOf P a h' fn.results.toList with
        | some _ => some (h', m')
        | none => none
      | _ => none
    | none => none
  | none => none

theorem dOps_ok {P : Program} {ops : Array Oper} : ∀ (l : List Nat) {a : AA} {h : AH} {m : DM} {a₂ : AA} {h₂ : AH} {m₂ : DM}, dOps P ops l a h m = some (a₂, h₂, m₂) →
    ∀ {E : Ren} {w : World} {x : Act} {c0 : Frame} {cs : List Frame} {Q : Exit → Act → List Frame → World → Prop}, RW P E h w → RT E a x.tmps → x.defers = [] → m.rel E c0.mode →
      (∀ E' w' y u', RW P E' h₂ w' → Ext E w E' w' → RT E' a₂ y.tmps → y.defers = [] → m₂.rel E' u' → Q .normal y ({ c0 with mode := u' } :: cs) w') → wpOpsSIn Fence.wide 0 P ops Q l x (c0 :: cs) w := by
  intro l
  induction l with
  | nil =>
    intro a h m a₂ h₂ m₂ hh E w x c0 cs Q r rt hd hm hQ
    cases hh
    exact hQ E w x c0.mode r (.refl E w) rt hd hm
  | cons i rest ih =>
    intro a h m a₂ h₂ m₂ hh E w x c0 cs Q r rt hd hm hQ
    have hput : ∀ (d : Option Tmp) (v : Value), (x.put d v).defers = x.defers := fun d v => by cases d <;> rfl
    simp only [dOps] at hh
    simp only [wpOpsSIn]
    cases ho : ops[i]? with
    | none => rw [ho] at hh; exact ih hh r rt hd hm hQ
    | some o =>
      rw [ho] at hh
      simp only at hh ⊢
      refine ⟨fun _ _ => trivial, ?_⟩
      split at hh
      case isFalse => cases hh
      rename_i hkn
      rw [← rt.yielded ops hkn]
      split at hh
      · rename_i hw
        rw [if_pos hw]
        split at hh
        · rename_i hrec
          have hrun : (execOp x.eval o).run P w = .ok .recover w := by
            unfold isRecover at hrec
            split at hrec
            · rename_i c hop
              split at hrec
              · rename_i hc
                unfold execOp
                rw [hop]
                simp [resolve, hc, Sem.run_bind, Sem.run_pure, Result.andThen_ok, invoke, builtin]
              · cases hrec
            · cases hrec
          rw [hrun]
          simp only
          cases m with
          | pan v =>
            obtain ⟨v', h1, h2⟩ := hm
            simp only [recoverD, h1]
            exact ih hh (c0 := { c0 with mode := .panicking [{ v := v', recovered := true }] }) r (rt.put o.dst h2) (by rw [hput]; exact hd) ⟨v', rfl, h2⟩ hQ
          | ret =>
            have h1 : c0.mode = .returning := hm
            simp only [recoverD, h1]
            exact ih hh r (rt.put o.dst .nilIface) (by rw [hput]; exact hd) hm hQ
          | recd v =>
            obtain ⟨v', h1, h2⟩ := hm
            simp only [recoverD, h1]
            exact ih hh r (rt.put o.dst .nilIface) (by rw [hput]; exact hd) ⟨v', h1, h2⟩ hQ
        · split at hh
          · rename_i v h' hop
            obtain ⟨E', v', w', h1, h2, h3, h4⟩ := absOp_ok r (rt.opnd r) hop
            rw [h1]
            exact ih hh h2 ((rt.mono h3.le).put o.dst h4) (by rw [hput]; exact hd) (hm.mono h3.le) fun E'' w'' y u' q1 q2 q3 q4 q5 => hQ E'' w'' y u' q1 (h3.trans q2) q3 q4 q5
          · rename_i h' hop
            obtain ⟨E', w', h1, h2, h3⟩ := absOp_ok r (rt.opnd r) hop
            rw [h1]
            exact ih hh h2 ((rt.mono h3.le).put o.dst rv_undef) (by rw [hput]; exact hd) (hm.mono h3.le) fun E'' w'' y u' q1 q2 q3 q4 q5 => hQ E'' w'' y u' q1 (h3.trans q2) q3 q4 q5
          · cases hh
      · rename_i hw
        rw [if_neg hw]
        exact ih hh r (rt.put o.dst rv_undef) (by rw [hput]; exact hd) hm hQ

theorem dCode_ok {P : Program} : ∀ (c : Code) {a : AA} {h : AH} {m : DM} {e : AX} {a₂ : AA} {h₂ : AH} {m₂ : DM}, dCode P c a h m = some (e, a₂, h₂, m₂) →
    ∀ {E : Ren} {w : World} {x : Act} {c0 : Frame} {cs : List Frame} {Q : Exit → Act → List Frame → World → Prop}, RW P E h w → RT E a x.tmps → x.defers = [] → m.rel E c0.mode →
      (∀ E' w' y u', RW P E' h₂ w' → Ext E w E' w' → RT E' a₂ y.tmps → y.defers = [] → m₂.rel E' u' → Q e.toExit y ({ c0 with mode := u' } :: cs) w') → c.wpSIn Fence.wide 0 P Q x (c0 :: cs) w := by
  intro c
  induction c with
  | skip =>
    intro a h m e a₂ h₂ m₂ hh E w x c0 cs Q r rt hd hm hQ
    cases hh
    exact wpSIn_of_wpIn rfl (wpIn_skip (hQ E w x c0.mode r (.refl E w) rt hd hm))
  | label l =>
    intro a h m e a₂ h₂ m₂ hh E w x c0 cs Q r rt hd hm hQ
    cases hh
    exact wpSIn_of_wpIn rfl (wpIn_label (hQ E w x c0.mode r (.refl E w) rt hd hm))
  | ret =>
    intro a h m e a₂ h₂ m₂ hh E w x c0 cs Q r rt hd hm hQ
    cases hh
    exact wpSIn_of_wpIn rfl (wpIn_ret (hQ E w x c0.mode r (.refl E w) rt hd hm))
  | region id ops draw =>
    intro a h m e a₂ h₂ m₂ hh E w x c0 cs Q r rt hd hm hQ
    simp only [dCode] at hh
    cases draw with
    | true => simp at hh
    | false =>
      simp only [Bool.false_eq_true, if_false] at hh
      split at hh
      · rename_i a' h' m' hops
        cases hh
        exact wpSIn_region (dOps_ok _ hops r rt hd hm hQ)
      · cases hh
  | seq p q ihp ihq =>
    intro a h m e a₂ h₂ m₂ hh E w x c0 cs Q r rt hd hm hQ
    simp only [dCode] at hh
    split at hh
    · rename_i a' h' m' hp
      refine wpSIn_seq (ihp hp r rt hd hm fun E' w' y u' q1 q2 q3 q4 q5 => ?_)
      exact ihq hh (c0 := { c0 with mode := u' }) q1 q3 q4 q5 fun E'' w'' y' u'' p1 p2 p3 p4 p5 => hQ E'' w'' y' u'' p1 (q2.trans p2) p3 p4 p5
    · rename_i hne
      refine wpSIn_seq (ihp hh r rt hd hm fun E' w' y u' q1 q2 q3 q4 q5 => ?_)
      have := hQ E' w' y u' q1 q2 q3 q4 q5
      cases e with
      | normal => exact absurd hh (hne _ _ _)
      | _ => exact this
  | cond c p q ihp ihq =>
    intro a h m e a₂ h₂ m₂ hh E w x c0 cs Q r rt hd hm hQ
    simp only [dCode] at hh
    split at hh
    · rename_i hb
      have hv := rt.opnd r c _ hb
      generalize hx : x.eval c = u at hv
      cases hv
      exact wpSIn_cond (t := true) hx (by simpa using ihp hh r rt hd hm hQ)
    · rename_i hb
      have hv := rt.opnd r c _ hb
      generalize hx : x.eval c = u at hv
      cases hv
      exact wpSIn_cond (t := false) hx (by simpa using ihq hh r rt hd hm hQ)
    · cases hh
  | _ =>
    intro a h m e a₂ h₂ m₂ hh
    cases hh

theorem dRun_ok {P : Program} {f : FuncId} {args : List Value} {h h' : AH} {m m' : DM} (hh : dRun P f args h m = some (h', m')) {E : Ren} {w : World} {args' : Array Value} {u : FrameMode} (r : RW P E h w) (ra : RA E args.toArray args') (hm : m.rel E u) :
    CallsDIn Fence.wide 0 P f args' u w fun e u' w' => ∃ v' E', e = .returned v' ∧ RW P E' h' w' ∧ Ext E w E' w' ∧ m'.rel E' u' := by
  unfold dRun at hh
  split at hh
  case h_2 => cases hh
  rename_i fn hf
  split at hh
  · cases hh
  split at hh
  case h_2 => cases hh
  rename_i c hb
  have fin : ∀ (e : AX) (a : AA) (hx : AH) (mx : DM), (e = .normal ∨ e = .ret) → dCode P c ⟨tmsOf 0 args .leaf, args.length + (fn.ntmps - args.length), {}⟩ h m = some (e, a, hx, mx) → (∃ vs, resultsOf P a hx fn.results.toList = some vs) → h' = hx → m' = mx →
      CallsDIn Fence.wide 0 P f args' u w fun e u' w' => ∃ v' E', e = .returned v' ∧ RW P E' h' w' ∧ Ext E w E' w' ∧ m'.rel E' u' := by
    rintro e a hx mx he hcode ⟨vs, hvs⟩ rfl rfl
    refine callsDIn_of_wpSIn hf hb trivial fun c₀ cs hu => ?_
    have hst := RT.start ra fn.ntmps
    have e0 : (⟨tmsOf 0 args.toArray.toList .leaf, args.toArray.size + (fn.ntmps - args.toArray.size), {}⟩ : AA) = ⟨tmsOf 0 args .leaf, args.length + (fn.ntmps - args.length), {}⟩ := by simp
    rw [e0] at hst
    refine dCode_ok c hcode r hst rfl (by rw [hu]; exact hm) fun E' w' y u' q1 q2 q3 q4 q5 => ?_
    obtain ⟨v', g1, g2⟩ := results_run q1 q3 hvs
    rcases he with rfl | rfl <;> exact ⟨q4, u', rfl, v', g1, v', E', rfl, q1, q2, q5⟩
  split at hh
  · rename_i a hx mx hcode
    split at hh
    · rename_i vs hvs
      cases hh
      exact fin .normal a _ _ (.inl rfl) hcode ⟨vs, hvs⟩ rfl rfl
    · cases hh
  · rename_i a hx mx hcode
    split at hh
    · rename_i vs hvs
      cases hh
      exact fin .ret a _ _ (.inr rfl) hcode ⟨vs, hvs⟩ rfl rfl
    · cases hh
  · cases hh

/-- all deferred calls -/
def dAll (P : Program) : List Value → AH → DM → Option (AH × DM)
  | [], h, m => some (h, m)
  | .func (.func f) first captured :: l, h, m => match dRun P f (first.toList ++ captured.toList) h m with
    | some (h', m') => dAll P l h' m'.settle
    | none => none
  | _ :: _, _, _ => none

/-- behind the deferred calls -/
def leftK (P : Program) (res : List ResultVar) (a : AA) (Q : Res → AH → Prop) : AH × DM → Prop
  | (h, .ret) => bq (resultsOf P a h res) fun vs => Q (.ret (oneOf vs)) h
  | (h, .pan v) => Q (.pan v) h
  | (_, .recd _) => False

theorem Ext.aside {P : Program} {E₀ E : Ren} {w₀ w : World} {h : AH} (x : Ext E₀ w₀ E w) {n : Nat} (o : Obj) (hn : w₀.heap.size ≤ n) (hj : ∀ k, E.at_ k ≠ some n) (hf : E.fro n = none) : Ext E₀ w₀ E (w.putObj n o) where
  le := x.le
  range := x.range
  size := by rw [World.putObj_size]; exact x.size
  frame m hm hk := by rw [World.putObj_heap_other (by omega)]; exact x.frame m hm hk
  os := x.os
  output := x.output
  tape := x.tape
  drawn := x.drawn
  ice m hm := by
    obtain ⟨c, hc⟩ := Option.isSome_iff_exists.1 hm
    have := x.le.fro m c hc
    rw [World.putObj_heap_other (fun e => by subst e; rw [hf] at this; cases this)]
    exact x.ice m hm

theorem XD.aside {B : Nat} {E : Ren} {w : World} {dfs : List Value} {ds : List Deferred} {n : Nat} {ns : List Nat} (h0 : B ≤ w.heap.size) (h1 : XL E dfs ds ns) (h2 : ns.Nodup) (h3 : ∀ m ∈ ns, B ≤ m ∧ w.heap[m]? = some (.deferred (some [])) ∧ ∀ k, E.at_ k ≠ some m) (hn : n ∉ ns) (o : Obj) :
    XD B E (w.putObj n o) dfs ds := by
  refine ⟨by rw [World.putObj_size]; exact h0, ns, h1, h2, fun m hm => ?_⟩
  obtain ⟨f1, f2, f3⟩ := h3 m hm
  have hne : m ≠ n := fun e => hn (by rw [← e]; exact hm)
  exact ⟨f1, by rw [World.putObj_heap_other hne]; exact f2, f3⟩

/-- a function is left -/
theorem leaves_ok {P : Program} {fn : Func} {a : AA} {tmps : Array Value} {E₀ : Ren} {w₀ : World} {Q : Res → AH → Prop} : ∀ (ds : List Deferred) {dfs : List Value} {E : Ren} {w : World} {h : AH} {m : DM} {u : FrameMode} {y : AH × DM},
    dAll P dfs h m = some y → leftK P fn.results.toList a Q y → RW P E h w → Ext E₀ w₀ E w → XD w₀.heap.size E w dfs ds → m.rel E u → (∀ v, m ≠ .recd v) → RT E a tmps →
    LeavesInM Fence.wide 0 P fn tmps (fun e w' => ∃ E' r h', Res.rel E' r e ∧ RW P E' h' w' ∧ Ext E₀ w₀ E' w' ∧ Q r h') ds u w := by
  intro ds
  induction ds with
  | nil =>
    intro dfs E w h m u y hy hq r x xd hm hnr rt
    obtain ⟨h0, ns, h1, h2, h3⟩ := xd
    cases h1
    cases hy
    cases m with
    | ret =>
      have hu : u = .returning := hm
      subst hu
      obtain ⟨vs, e1, hq⟩ := bq_eq hq
      obtain ⟨v', g1, g2⟩ := results_run r rt e1
      exact ⟨v', g1, E, .ret (oneOf vs), h, g2, r, x, hq⟩
    | pan v =>
      obtain ⟨v', hu, hv⟩ := hm
      subst hu
      exact ⟨E, .pan v, h, ⟨v', rfl, hv⟩, r, x, hq⟩
    | recd v => exact absurd rfl (hnr v)
  | cons d ds ih =>
    intro dfs E w h m u y hy hq r x xd hm hnr rt
    obtain ⟨h0, ns, h1, h2, h3⟩ := xd
    cases h1 with
    | mark n h1 =>
      rename_i ns
      obtain ⟨g1, g2, g3⟩ := h3 n (by simp)
      have hnf : E.fro n = none := by
        cases hf : E.fro n with
        | none => rfl
        | some c =>
          obtain ⟨_, _, _, q1, _⟩ := r.frz n c hf
          rw [g2] at q1; cases q1
      refine ⟨hm.ne, .inl ⟨n, _, rfl, run_takeDeferred g2, ih hy hq (r.asideFrom (.deferred none) g3 hnf) (x.aside (P := P) (h := h) _ g1 g3 hnf) ?_ hm hnr rt⟩⟩
      exact XD.aside h0 h1 (List.nodup_cons.1 h2).2 (fun m hm => h3 m (List.mem_cons_of_mem _ hm)) (List.nodup_cons.1 h2).1 _
    | fn hv h1 =>
      rename_i dfs v f first cap
      unfold dAll at hy
      split at hy
      · rename_i hd; cases hd
      · rename_i h m f₀ first₀ cap₀ l₀ hd
        cases hd
        split at hy
        case h_2 => cases hy
        rename_i h' m' hrun
        cases hv with
        | func _ a1 a2 a3 a4 =>
          have hra : RA E (first₀.toList ++ cap₀.toList).toArray (first ++ cap) := by
            have e3 : (first₀.toList ++ cap₀.toList).toArray = first₀ ++ cap₀ := Array.ext' (by simp)
            rw [e3]
            exact RA.append ⟨a1, a3⟩ ⟨a2, a4⟩
          obtain ⟨fn₀, c₀, hf₀, hb₀, hn₀⟩ : ∃ fn₀ c₀, P.funcs[f₀]? = some fn₀ ∧ fn₀.body = some c₀ ∧ (fn₀.name == "runtime.NumGoroutine") = false := by
            unfold dRun at hrun
            split at hrun
            case h_2 => cases hrun
            rename_i fn₀ hf₀
            split at hrun
            · cases hrun
            rename_i hne
            split at hrun
            case h_2 => cases hrun
            rename_i c₀ hb₀
            exact ⟨fn₀, c₀, hf₀, hb₀, by simpa using hne⟩
          have henter : (invoke (.fn (.func f₀) cap) first).run P w = .ok (.enter f₀ (first ++ cap)) w := by
            simp only [invoke]
            have := enterOf_ok (P := P) (args := first₀.toList ++ cap₀.toList) (o := .enter f₀ (first₀.toList ++ cap₀.toList).toArray _) (f := f₀) r (by
              unfold enterOf
              rw [hf₀]
              simp only [hn₀, hb₀, Option.isNone_some, Bool.false_eq_true, if_false]
              rfl) hra
            obtain ⟨E₂, args₂, w₂, k1, _⟩ := this
            have : (callFunc f₀ (first ++ cap)).run P w = .ok (.enter f₀ (first ++ cap)) w := by
              simp [callFunc, Sem.run_bind, hf₀, hb₀, (by simpa using hn₀ : ¬ fn₀.name = "runtime.NumGoroutine")]
            exact this
          refine ⟨hm.ne, .inr ⟨fun hd => (by cases hd), .func f₀, cap, f₀, first ++ cap, rfl, henter, fun _ _ => trivial, ?_⟩⟩
          refine (dRun_ok hrun r hra hm).mono ?_
          rintro e u' w' ⟨v', E', rfl, q1, q2, q3⟩
          obtain ⟨h0', ns', h1', h2', h3'⟩ := (XD.ext ⟨h0, ns, h1, h2, h3⟩ q2)
          refine ih hy hq q1 (x.trans q2) ⟨h0', ns', h1', h2', h3'⟩ q3.settle (fun v => ?_) (rt.mono q2.le)
          cases m' <;> simp [DM.settle]
      · cases hy

end Go.Ab

/- AbWp -/
namespace Go.Ab
set_option linter.unusedVariables false
set_option linter.unusedSimpArgs false

/-- the first region of code -/
def rid : Code → Nat
  | .region id _ _ => id
  | .seq a b => let n := rid a; if n = 1000000 then rid b else n
  | .cond _ a b => let n := rid a; if n = 1000000 then rid b else n
  | .block _ a | .loop a | .scope a => rid a
  | _ => 1000000

/-- a region whose operations may come in several orders -/
def wpD (P : Program) (ops : Array Oper) (a : AA) (h : AH) (Q : HX → AA → AH → Prop) : Prop :=
  ∃ call, CallOk P call ∧ ∃ a₂ h₂, drawRun P call ops a h = some (a₂, h₂) ∧ Q .normal a₂ h₂

def keepL (L : Nat → Option (List Nat)) (r : Nat) (a : AA) : AA := match L r with
  | some l => a.keep l
  | none => a

def AA.toArr (a : AA) : Array Value := ((List.range a.n).map fun t => match a.get t with | some v => knw v | none => unk).toArray

/-- the record of a loop that begins -/
def recOf (a : AA) (ps : Array Tmp) (x y : Code) : Loop := { state := .ready, pending := none, fn := 0, tmps := a.toArr, params := ps, assign := x, body := y, defers := 0 }

def hasBody (P : Program) (f : FuncId) : Bool := match P.funcs[f]? with
  | some fn => !(fn.name == "runtime.NumGoroutine") && fn.body.isSome
  | none => false

def jumpX (n r : Prop) (x g : Nat → Prop) : Option Code → Prop
  | none => n
  | some .ret => r
  | some (.exit i) => x i
  | some (.goto l) => g l
  | _ => False

def jumpK (Q : HX → AA → AH → Prop) (a : AA) (h : AH) (j : Option Code) : Prop := jumpX (Q .normal a h) (Q .ret a h) (fun i => Q (.exit i) a h) (fun l => Q (.goto l) a h) j

def rangeK (k : Nat) (K : Option Code → AH → Prop) (pk : Value → AH → Prop) : Res → AH → Prop
  | .ret _, h => bq (loopAt h k) fun r => r.1.state ≠ .busy ∧ K r.1.pending (h.put k none)
  | .pan v, h => pk v h

/-- a range over a function -/
def rangeQ (P : Program) (gv : Value) (r : Loop) (h : AH) (K : Option Code → AH → Prop) (pk : Value → AH → Prop) : Prop := match gv with
  | .func (.func f) first captured => hasBody P f = true ∧ HC P f (first.toList ++ .chan (some h.size) :: captured.toList).toArray (h.push (.loop r) none) (rangeK h.size K pk)
  | _ => False

def rndP (o : Option Nat) (h : AH) : Prop := match o with
  | none => True
  | some k => (loopAt h k).isSome = true

def rangeP (P : Program) (gv : Value) (ps : Array Tmp) (x y : Code) (ar a : AA) (h : AH) (Q : HX → AA → AH → Prop) : Prop :=
  rndP a.rnd.loop h ∧ rangeQ P gv (recOf ar ps x y) h (fun j h => jumpK Q a h j) fun v h => Q (.panic v) a h

def condP (o : Option Value) (A B : Prop) : Prop := match o with
  | some (.bool b) => if b then A else B
  | _ => False

def wpC (P : Program) (L : Nat → Option (List Nat)) : Code → AA → AH → (HX → AA → AH → Prop) → Prop
  | .skip, a, h, Q => Q .normal a h
  | .label _, a, h, Q => Q .normal a h
  | .region _ ops draw, a, h, Q => if draw then (if orderedB P ops then wpX P ops ops.toList a h (fun a h => Q .normal a h) else if orderedZ P ops then wpZ P ops ops.toList a h [] (fun rs a' h' => obligZ P ops rs h (pairsZ P ops) ∧ Q .normal a' h') else wpD P ops a h Q) else wpO P ops (List.range ops.size) a h Q
  | .seq x y, a, h, Q => wpC P L x a h (seqK (fun a h => wpC P L y (keepL L (rid y) a) h Q) Q)
  | .cond c x y, a, h, Q => condP (a.opnd P c) (wpC P L x a h Q) (wpC P L y a h Q)
  | .block id x, a, h, Q => wpC P L x a h (blockK id Q)
  | .loop x, a, h, Q => HL P x (keepL L (rid x) a) h Q
  | .scope x, a, h, Q => HS P x x (keepL L (rid x) a) h Q
  | .exit id, a, h, Q => Q (.exit id) a h
  | .goto l, a, h, Q => Q (.goto l) a h
  | .ret, a, h, Q => Q .ret a h
  | .rangeFunc g ps x y, a, h, Q => oq (a.opnd P g) fun gv => rangeP P gv ps x y (keepL L (rid (.seq x y)) a) a h Q
  | _, _, _, _ => False

theorem RT.keepL {E : Ren} {a : AA} {t : Array Value} (h : RT E a t) (L : Nat → Option (List Nat)) (r : Nat) : RT E (Ab.keepL L r a) t := by
  unfold Ab.keepL
  split
  · exact h.keep _
  · exact h

theorem RX.keepL {B : Nat} {ro : Option Nat} {E : Ren} {w : World} {a : AA} {x : Act} (h : RX B ro E w a x) (L : Nat → Option (List Nat)) (r : Nat) : RX B ro E w (Ab.keepL L r a) x := by
  unfold Ab.keepL
  split
  · exact h.keep _
  · exact h

theorem trace_rnd {P : Program} {call : CallF} {ops : Array Oper} : ∀ {l : List Oper} {a : AA} {h : AH} {rs : List Rec} {a₂ : AA} {h₂ : AH}, trace P call ops l a h = some (rs, a₂, h₂) → a₂.rnd = a.rnd := by
  intro l
  induction l with
  | nil => intro a h rs a₂ h₂ hh; cases hh; rfl
  | cons o l ih =>
    intro a h rs a₂ h₂ hh
    simp only [trace] at hh
    split at hh
    · split at hh
      · rename_i ht
        cases hh
        rw [ih ht, AA.put_rnd]
      · cases hh
    · cases hh

theorem drawRun_rnd {P : Program} {call : CallF} {ops : Array Oper} {a a₂ : AA} {h h₂ : AH} (hd : drawRun P call ops a h = some (a₂, h₂)) : a₂.rnd = a.rnd := by
  unfold drawRun at hd
  split at hd
  case isFalse => cases hd
  split at hd
  case h_2 => cases hd
  rename_i ht
  split at hd
  case isFalse => cases hd
  cases hd
  exact trace_rnd ht

theorem RUA.toArr {E : Ren} {a : AA} {x : Array Value} (h : RT E a x) : RUA E a.toArr x := by
  refine ⟨by simp [AA.toArr, h.size], fun i v v' h1 h2 => ?_⟩
  simp only [AA.toArr, List.getElem?_toArray, List.getElem?_map, Option.map_eq_some_iff] at h1
  obtain ⟨j, h3, h4⟩ := h1
  have hj : j = i := by
    rw [List.getElem?_range (by have := (List.getElem?_eq_some_iff.1 h3).1; simpa using this)] at h3
    exact (Option.some.inj h3).symm
  subst hj
  cases hg : a.get j with
  | none => rw [hg] at h4; exact .inl h4.symm
  | some u =>
    rw [hg] at h4
    simp only at h4
    subst h4
    have := h.get j u hg
    rw [Array.getD_eq_getD_getElem?, h2] at this
    exact RU.knw this

theorem rangeK_jump {P : Program} {Q : HX → AA → AH → Prop} {a : AA} {h : AH} {j : Option Code} {B : Nat} {ro : Option Nat} {E : Ren} {w₀ : World} {E₀ : Ren} {w : World} {x : Act} (hj : jumpK Q a h j) (r : RW P E h w) (xe : Ext E₀ w₀ E w) (rx : RX B ro E w a x) :
    match (generalizing := false) j with
    | none => HPost P B ro E₀ w₀ Q .normal x w
    | some c => c.wpIn (Fr ro) 0 P (HPost P B ro E₀ w₀ Q) x w := by
  unfold jumpK jumpX at hj
  split at hj
  · exact ⟨.normal, a, h, E, trivial, r, xe, rx, hj⟩
  · exact wpIn_ret ⟨.ret, a, h, E, trivial, r, xe, rx, hj⟩
  · exact wpIn_exit ⟨.exit _, a, h, E, rfl, r, xe, rx, hj⟩
  · exact wpIn_goto ⟨.goto _, a, h, E, rfl, r, xe, rx, hj⟩
  · cases hj

theorem markOf_inj : ∀ {l m : List Nat}, l.map markOf = m.map markOf → l = m := by
  intro l
  induction l with
  | nil => intro m h; cases m with
    | nil => rfl
    | cons _ _ => cases h
  | cons n l ih =>
    intro m h
    cases m with
    | nil => cases h
    | cons k m =>
      simp only [List.map_cons, List.cons.injEq] at h
      have hk : n = k := by
        have := h.1
        simp only [markOf, Deferred.mk.injEq, Target.collected.injEq] at this
        exact this.1
      rw [hk, ih h.2]

/-- a range over a function -/
theorem range_ok {P : Program} {g : Operand} {ps : Array Tmp} {assign body : Code} {a ar : AA} {h : AH} {Q : HX → AA → AH → Prop} {gv : Value} (hg : a.opnd P g = some gv) (hh : rangeP P gv ps assign body ar a h Q)
    (har : ∀ E t, RT E a t → RT E ar t) : HW P (.rangeFunc g ps assign body) a h Q := by
  intro B ro E w x r rx
  obtain ⟨hrnd, hh⟩ := hh
  unfold rndP at hrnd
  unfold rangeQ at hh
  split at hh
  case h_2 => cases hh
  rename_i f first captured
  obtain ⟨hbd, hh⟩ := hh
  have hv := rx.rt.opnd r g _ hg
  generalize hx : x.eval g = fv at hv
  cases hv with
  | func _ hf1 hc1 hf2 hc2 =>
    rename_i first' captured'
    refine wpIn_rangeFunc fun fn _ => ?_
    -- the record is laid
    have lay : ∃ (l : Nat) (mark : List Deferred) (w₁ : World) (E₁ : Ren), (Instr.enterLoop fn x.tmps ps assign body (Fr ro).round).run P w = .ok (l, mark) w₁ ∧
        RW P E₁ (h.push (.loop (recOf ar ps assign body)) none) w₁ ∧ Ext E w E₁ w₁ ∧ E₁.at_ h.size = some l ∧ XD B E₁ w₁ a.rnd.dfs (mark ++ x.defers) := by
      rw [Fr_round]
      cases ro with
      | none =>
        obtain ⟨r1, x1⟩ := r.beside (.deferred (some []))
        obtain ⟨r2, x2⟩ := r1.push (o := .loop (recOf ar ps assign body)) (o' := .loop { state := .ready, pending := none, fn, tmps := x.tmps, params := ps, assign, body, defers := w.heap.size }) none
          (.loop rfl rfl rfl rfl rfl (RUA.toArr (har E _ rx.rt)).1 fun i v v' a b => ((RUA.toArr (har E _ rx.rt)).2 i v v' a b).mono (Ren.le_add r1 _ _))
        refine ⟨_, _, _, _, run_enterLoop_outer fn x.tmps ps assign body, r2, x1.trans x2, by simp [Ren.add, World.size_alloc], ?_⟩
        obtain ⟨h0, ns, h1, h2, h3⟩ := (rx.xd.ext x1).ext x2
        obtain ⟨_, ns', h1', _, h3'⟩ := rx.xd
        refine ⟨h0, w.heap.size :: ns, .mark _ h1, List.nodup_cons.2 ⟨fun hm => ?_, h2⟩, fun n hn => ?_⟩
        · have e : ns = ns' := h1.inj h1'
          rw [e] at hm
          have := (Array.getElem?_eq_some_iff.1 (h3' _ hm).2.1).1
          omega
        · rcases List.mem_cons.1 hn with rfl | hn
          · refine ⟨rx.xd.1, ?_, fun k hk => ?_⟩
            · show ((w.alloc _).heap.push _)[_]? = _
              rw [Array.getElem?_push, if_neg (by rw [World.size_alloc]; omega)]
              exact World.alloc_heap_new w _
            · simp only [Ren.add, World.size_alloc] at hk
              split at hk
              · have := Option.some.inj hk; omega
              · have := (r.dom k _ hk).2; omega
          · exact h3 n hn
      | some l₀ =>
        have hrd := rx.rd
        cases hrk : a.rnd.loop with
        | none => rw [hrk] at hrd; cases hrd
        | some k0 =>
          rw [hrk] at hrd hrnd
          obtain ⟨⟨r0, s0⟩, hr0⟩ := Option.isSome_iff_exists.1 hrnd
          obtain ⟨_, n0, r0', p1, p2, _⟩ := r.loopAt hr0
          rw [show E.at_ k0 = some l₀ from hrd] at p1
          cases p1
          obtain ⟨r2, x2⟩ := r.push (o := .loop (recOf ar ps assign body)) (o' := .loop { state := .ready, pending := none, fn, tmps := x.tmps, params := ps, assign, body, defers := r0'.defers }) none
            (.loop rfl rfl rfl rfl rfl (RUA.toArr (har E _ rx.rt)).1 fun i v v' a b => ((RUA.toArr (har E _ rx.rt)).2 i v v' a b).mono (Ren.le_add r _ _))
          exact ⟨_, _, _, _, run_enterLoop_inner p2 fn x.tmps ps assign body, r2, x2, by simp [Ren.add], rx.xd.ext x2⟩
    obtain ⟨l, mark, w₁, E₁, hent, r₁, x₁, hat, hxd⟩ := lay
    have hra : RA E₁ (first.toList ++ .chan (some h.size) :: captured.toList).toArray (first' ++ #[.func (.yield l) #[] #[]] ++ captured') := by
      have e3 : (first.toList ++ Value.chan (some h.size) :: captured.toList).toArray = first ++ #[Value.chan (some h.size)] ++ captured := Array.ext' (by simp)
      rw [e3]
      exact RA.append (RA.append (RA.mono x₁.le ⟨hf1, hf2⟩) (RA.one (.yld hat))) (RA.mono x₁.le ⟨hc1, hc2⟩)
    have henter : enterOf P f (first.toList ++ .chan (some h.size) :: captured.toList) (h.push (.loop (recOf ar ps assign body)) none) = some (.enter f (first.toList ++ .chan (some h.size) :: captured.toList).toArray (h.push (.loop (recOf ar ps assign body)) none)) := by
      unfold enterOf
      unfold hasBody at hbd
      split at hbd
      · rename_i fn' hfn
        simp only [Bool.and_eq_true, Bool.not_eq_true'] at hbd
        simp only [hfn, hbd.1, Bool.false_eq_true, if_false]
        rw [if_neg]
        cases hb : fn'.body with
        | none => rw [hb] at hbd; cases hbd.2
        | some _ => simp
      · cases hbd
    obtain ⟨E₂, args₂, w₂, g1, g2, g3, g4⟩ := enterOf_ok r₁ henter hra
    refine ⟨l, mark, w₁, { target := .fn (.func f) captured', args := first' ++ #[.func (.yield l) #[] #[]] }, w₁, f, args₂, w₂, hent, ?_, fun f' _ => Fr_fn ro f', ?_, fun hd => (by rw [Fr_depth] at hd; cases hd), callsIn ?_⟩
    · have ec : x.eval (.const (.func (.yield l) #[] #[])) = .func (.yield l) #[] #[] := rfl
      simp [resolve, rangeCall, hx, Deferred.ofValue, ec]
    · simp only [invoke]
      exact g1
    · refine (hh E₂ w₂ args₂ g2 g4).mono ?_
      rintro e w₃ ⟨E₃, res, h₃, q1, q2, q3, q4⟩
      have x3 : Ext E w E₃ w₃ := x₁.trans (g3.trans q3)
      have hxd3 : XD B E₃ w₃ a.rnd.dfs (mark ++ x.defers) := (hxd.ext g3).ext q3
      cases res with
      | ret v =>
        cases e with
        | returned v' =>
          obtain ⟨⟨rl, s⟩, hl, hst, hj⟩ := bq_eq q4
          simp only at hst hj
          obtain ⟨hg3, n3, rl', p1, p2, p3, p4, _⟩ := q2.loopAt hl
          have hn : n3 = l := by
            have := (g3.trans q3).le.at_ _ _ hat
            rw [p1] at this
            exact Option.some.inj this
          subst hn
          obtain ⟨r4, x4⟩ := q2.loopPut hl p1 p2 .exhausted rl.pending
          have eb : ({ rl' with state := .exhausted, pending := rl.pending } : Loop) = { rl' with state := .exhausted } := by rw [← p4]
          rw [eb] at r4 x4
          have r5 : RW P E₃ (h₃.put h.size none) (w₃.putObj n3 (.loop { rl' with state := .exhausted })) := r4.less (Nat.le_refl _) fun k y hk => by
            rw [AH.get_put] at hk ⊢
            split at hk
            · cases hk
            · rename_i e; rw [if_neg e]; exact hk
          refine ⟨_, _, run_endLoop p2 (by rw [p3]; exact hst), ?_⟩
          rw [← p4] at hj
          have rx5 : RX B ro E₃ (w₃.putObj n3 (.loop { rl' with state := .exhausted })) a { x with defers := mark ++ x.defers } :=
            ⟨rx.rt.mono (x3.trans x4).le, rx.rd.mono (x3.trans x4).le, hxd3.ext x4⟩
          exact rangeK_jump hj r5 (x3.trans x4) rx5
        | _ => cases q1
      | pan v =>
        cases e with
        | panicked chain =>
          exact ⟨.panic v, a, h₃, E₃, q1, q2, x3, ⟨rx.rt.mono x3.le, rx.rd.mono x3.le, hxd3⟩, q4⟩
        | _ => cases q1

theorem wpC_ok {P : Program} {L : Nat → Option (List Nat)} : ∀ (c : Code) {a : AA} {h : AH} {Q : HX → AA → AH → Prop}, wpC P L c a h Q → HW P c a h Q := by
  intro c
  induction c with
  | skip => intro a h Q hh B ro E w x r rx; exact wpIn_skip ⟨.normal, a, h, E, trivial, r, .refl E w, rx, hh⟩
  | label l => intro a h Q hh B ro E w x r rx; exact wpIn_label ⟨.normal, a, h, E, trivial, r, .refl E w, rx, hh⟩
  | exit id => intro a h Q hh B ro E w x r rx; exact wpIn_exit ⟨.exit id, a, h, E, rfl, r, .refl E w, rx, hh⟩
  | goto l => intro a h Q hh B ro E w x r rx; exact wpIn_goto ⟨.goto l, a, h, E, rfl, r, .refl E w, rx, hh⟩
  | ret => intro a h Q hh B ro E w x r rx; exact wpIn_ret ⟨.ret, a, h, E, trivial, r, .refl E w, rx, hh⟩
  | region id ops draw =>
    intro a h Q hh B ro E w x r rx
    cases draw with
    | false => exact wpR_region (wpO_ok _ hh r (.refl E w) rx)
    | true =>
      simp only [wpC, if_true] at hh
      split at hh
      · rename_i hob
        exact draw_ordered hob hh r rx.rt rfl fun a₂ h₂ E' w' y hq hr q1 q2 q3 q4 => ⟨.normal, a₂, h₂, E', trivial, q1, q2, rx.next q2 q3 q4 hr, hq⟩
      split at hh
      · rename_i hoz
        exact draw_Z (Q := fun a h => Q .normal a h) hoz hh r rx.rt rfl fun a₂ h₂ E' w' y hq hr q1 q2 q3 q4 => ⟨.normal, a₂, h₂, E', trivial, q1, q2, rx.next q2 q3 q4 hr, hq⟩
      obtain ⟨call, hc, a₂, h₂, hr, hq⟩ := hh
      exact drawRun_ok hc hr r rx.rt rfl fun E' w' y q1 q2 q3 q4 => ⟨.normal, a₂, h₂, E', trivial, q1, q2, rx.next q2 q3 q4 (drawRun_rnd hr), hq⟩
  | seq p q ihp ihq =>
    intro a h Q hh B ro E w x r rx
    refine wpIn_seq (wpIn_mono (ihp hh B ro E w x r rx) ?_)
    rintro e y w' ⟨hx, a', h', E', h1, h2, h3, h4, h6⟩
    cases hx with
    | normal =>
      cases e with
      | normal => exact wpIn_mono (ihq h6 B ro E' w' y h2 (h4.keepL L _)) fun e y w hp => hp.ext h3
      | _ => cases h1
    | _ =>
      cases e <;> first
        | (cases h1; done)
        | exact ⟨_, a', h', E', h1, h2, h3, h4, h6⟩
  | cond c p q ihp ihq =>
    intro a h Q hh B ro E w x r rx
    simp only [wpC, condP] at hh
    split at hh
    · rename_i b hb
      have hv := rx.rt.opnd r c _ hb
      generalize hx : x.eval c = u at hv
      cases hv
      cases b with
      | true => exact wpIn_cond_true hx (ihp (by simpa using hh) B ro E w x r rx)
      | false => exact wpIn_cond_false hx (ihq (by simpa using hh) B ro E w x r rx)
    · cases hh
  | block id p ihp =>
    intro a h Q hh B ro E w x r rx
    refine wpIn_block (wpIn_mono (ihp hh B ro E w x r rx) ?_)
    rintro e y w' ⟨hx, a', h', E', h1, h2, h3, h4, h6⟩
    cases hx with
    | exit i =>
      cases e with
      | exit j =>
        have h1' : i = j := h1
        subst h1'
        simp only [blockK] at h6
        simp only [Exit.inBlock]
        split at h6
        · rename_i e; rw [if_pos e]; exact ⟨.normal, a', h', E', trivial, h2, h3, h4, h6⟩
        · rename_i e; rw [if_neg e]; exact ⟨.exit i, a', h', E', rfl, h2, h3, h4, h6⟩
      | _ => cases h1
    | _ =>
      cases e <;> first
        | (cases h1; done)
        | exact ⟨_, a', h', E', h1, h2, h3, h4, h6⟩
  | loop p ihp =>
    intro a h Q hh B ro E w x r rx
    exact LoopW.wp (hh B ro E w x r (rx.keepL L _))
  | scope p ihp =>
    intro a h Q hh B ro E w x r rx
    exact ScopeW.wp (hh B ro E w x r (rx.keepL L _))
  | rangeFunc g ps p q ihp ihq =>
    intro a h Q hh
    obtain ⟨gv, hg, hh⟩ := oq_eq hh
    exact range_ok hg hh fun E t rt => rt.keepL L _
  | _ => intro a h Q hh; cases hh

/-- one more round of a loop -/
theorem HL.step {P : Program} {L : Nat → Option (List Nat)} {c : Code} {a : AA} {h : AH} {Q : HX → AA → AH → Prop} (hh : wpC P L c a h (seqK (fun a h => HL P c (keepL L (rid c) a) h Q) Q)) : HL P c a h Q := by
  refine HL.round fun B ro E w x r rx => wpIn_mono (wpC_ok c hh B ro E w x r rx) fun e y w' hp => hp.mono fun e a h hq => ?_
  cases e with
  | normal =>
    intro B ro E w x r rx
    exact hq B ro E w x r (rx.keepL L _)
  | _ => exact hq

/-- code within a scope -/
theorem HS.step {P : Program} {L : Nat → Option (List Nat)} {c d : Code} {a : AA} {h : AH} {Q : HX → AA → AH → Prop}
    (hh : wpC P L d a h (scopeK (fun l a h => match findLabel c l with | some rest => HS P c rest (keepL L (rid rest) a) h Q | none => False) Q)) : HS P c d a h Q := by
  refine HS.run fun B ro E w x r rx => wpIn_mono (wpC_ok d hh B ro E w x r rx) fun e y w' hp => hp.mono fun e a h hq => ?_
  cases e with
  | goto l =>
    simp only [scopeK] at hq ⊢
    cases hf : findLabel c l with
    | none => rw [hf] at hq; cases hq
    | some rest =>
      rw [hf] at hq
      intro B ro E w x r rx
      exact hq B ro E w x r (rx.keepL L _)
  | _ => exact hq

/-- behind a function's body -/
def retK (P : Program) (res : List ResultVar) (Q : Res → AH → Prop) : HX → AA → AH → Prop
  | .normal, a, h | .ret, a, h => bq (dAll P a.rnd.dfs h .ret) fun y => leftK P res a Q y
  | .panic v, a, h => bq (dAll P a.rnd.dfs h (.pan v)) fun y => leftK P res a Q y
  | _, _, _ => False

/-- the temporaries at the beginning of a function -/
def argA (args : List Value) (n : Nat) : AA := ⟨tmsOf 0 args .leaf, args.length + (n - args.length), {}⟩

theorem HC.bodyW {P : Program} {f : FuncId} {fn : Func} {c : Code} {args : List Value} {h : AH} {Q : Res → AH → Prop} (hf : P.funcs[f]? = some fn) (hb : fn.body = some c)
    (hh : HW P c (argA args fn.ntmps) h (retK P fn.results.toList Q)) : HC P f args.toArray h Q := by
  intro E w args' r ra
  refine callsIn_wide.1 (callsIn_of_wp_marks (n := 0) hf hb trivial ?_)
  have hst := RT.start ra fn.ntmps
  have e0 : (⟨tmsOf 0 args.toArray.toList .leaf, args.toArray.size + (fn.ntmps - args.toArray.size), {}⟩ : AA) = argA args fn.ntmps := by simp [argA]
  rw [e0] at hst
  refine wpIn_mono (hh w.heap.size none E w _ r ⟨hst, trivial, XD.nil E w⟩) ?_
  rintro e y w' ⟨hx, a', h', E', h1, h2, h3, h4, h6⟩
  cases hx with
  | normal =>
    cases e with
    | normal =>
      obtain ⟨y', e1, hq⟩ := bq_eq h6
      exact leaves_ok _ e1 hq h2 h3 h4.xd rfl (by simp) h4.rt
    | _ => cases h1
  | ret =>
    cases e with
    | ret =>
      obtain ⟨y', e1, hq⟩ := bq_eq h6
      exact leaves_ok _ e1 hq h2 h3 h4.xd rfl (by simp) h4.rt
    | _ => cases h1
  | panic v =>
    cases e with
    | panic chain =>
      obtain ⟨y', e1, hq⟩ := bq_eq h6
      obtain ⟨v', hc, hv⟩ := h1
      exact leaves_ok _ e1 hq h2 h3 h4.xd ⟨v', by rw [hc], hv⟩ (by simp) h4.rt
    | _ => cases h1
  | _ => cases h6

theorem HC.body {P : Program} {L : Nat → Option (List Nat)} {f : FuncId} {fn : Func} {c : Code} {args : List Value} {h : AH} {Q : Res → AH → Prop} (hf : P.funcs[f]? = some fn) (hb : fn.body = some c)
    (hh : wpC P L c (argA args fn.ntmps) h (retK P fn.results.toList Q)) : HC P f args.toArray h Q := HC.bodyW hf hb (wpC_ok c hh)

end Go.Ab

/- AbGhost -/
namespace Go.Ab
set_option linter.unusedVariables false
set_option linter.unusedSimpArgs false

/-- what is said anew of a value and a heap -/
def Gh (P : Program) (h : AH) (v : Value) (h' : AH) (v' : Value) : Prop := ∀ E w u, RW P E h w → RV E v u → ∃ E', RW P E' h' w ∧ Ext E w E' w ∧ RV E' v' u

theorem Gh.refl (P : Program) (h : AH) (v : Value) : Gh P h v h v := fun E w u r rv => ⟨E, r, .refl E w, rv⟩
theorem Gh.trans {P : Program} {h h' h'' : AH} {v v' v'' : Value} (a : Gh P h v h' v') (b : Gh P h' v' h'' v'') : Gh P h v h'' v'' := fun E w u r rv => by
  obtain ⟨E', r', x, rv'⟩ := a E w u r rv
  obtain ⟨E'', r'', x', rv''⟩ := b E' w u r' rv'
  exact ⟨E'', r'', x.trans x', rv''⟩

theorem rw_ice {P : Program} {E : Ren} {h : AH} {w : World} (r : RW P E h w) {k b : Nat} {c : Array Value} {e : TypeId} {s : Option Nat} (hk : h.get k = some (.cells c e (0, 0), s)) (hat : E.at_ k = some b) :
    ∃ c', (∀ (i : Nat) v v', c[i]? = some v → c'[i]? = some v' → RV (E.still b c') v v') ∧ c'.size = c.size ∧ RW P (E.still b c') (h.put k (some (.cells c e (0, 1), s))) w ∧ Ext E w (E.still b c') w := by
  obtain ⟨cw, fz, g1, g2, g3, g4⟩ := r.cells hk hat
  have hnf := r.unfro hk hat rfl
  have le : E.Le (E.still b (cw.extract 0 c.size)) := ⟨fun _ _ h => h, fun _ _ _ => rfl, fun _ _ h => h, fun n d hd => by
    simp only [Ren.still]
    rw [if_neg]
    · exact hd
    · rintro rfl; rw [hnf] at hd; cases hd⟩
  have hrel : ∀ (i : Nat) v v', c[i]? = some v → cw[i]? = some v' → RV (E.still b (cw.extract 0 c.size)) v v' := fun i v v' h1 h2 => (g3 i v v' h1 h2).mono le
  have hsz : (cw.extract 0 c.size).size = c.size := by simp; omega
  refine ⟨cw.extract 0 c.size, fun i v v' h1 h2 => ?_, hsz, ⟨r.glob, fun j n hj => by simpa using r.dom j n hj, r.sdom, fun j o t hj => ?_, fun i j n hi hj gi gj => ?_, fun n d hd => ?_, fun j o t n hj hn hf => ?_, r.sep⟩,
    ⟨le, fun j n hj => .inl ⟨j, hj⟩, Nat.le_refl _, fun _ _ _ => rfl, rfl, rfl, rfl, Nat.le_refl _, fun _ _ => rfl⟩⟩
  · rw [Array.getElem?_extract] at h2
    split at h2
    · rw [Nat.zero_add] at h2; exact hrel i v v' h1 h2
    · cases h2
  · rw [AH.get_put] at hj
    split at hj
    · rename_i ej; subst ej; cases hj
      obtain ⟨n, o', p1, p2, p3, p4⟩ := r.live j _ s hk
      rw [hat] at p1; cases p1
      exact ⟨b, _, hat, g1, .ice g2 hrel, p4⟩
    · obtain ⟨n, o', p1, p2, p3, p4⟩ := r.live j o t hj
      exact ⟨n, o', p1, p2, p3.mono le, p4⟩
  · refine r.inj i j n hi hj ?_ ?_
    · rw [AH.get_put] at gi
      split at gi
      · rename_i e; rw [e, hk]; rfl
      · exact gi
    · rw [AH.get_put] at gj
      split at gj
      · rename_i e; rw [e, hk]; rfl
      · exact gj
  · simp only [Ren.still] at hd
    split at hd
    · rename_i en; subst en; cases hd
      refine ⟨cw, e, fz, g1, by omega, fun i hi => ?_⟩
      rw [hsz] at hi
      rw [Array.getElem?_extract, if_pos (by omega), Nat.zero_add]
    · exact r.frz n d hd
  · rw [AH.get_put] at hj
    split at hj
    · cases hj; rfl
    · rename_i ej
      simp only [Ren.still] at hf
      split at hf
      · rename_i en
        subst en
        exact absurd (r.inj j k n hn hat (by rw [hj]; rfl) (by rw [hk]; rfl)) ej
      · exact r.icy j o t n hj hn hf

/-- a slice is said to stay as it is -/
theorem Gh.slice {P : Program} {h : AH} {k off len cap z : Nat} {c : Array Value} {e : TypeId} {s : Option Nat} {l : List Value} (hk : h.get k = some (.cells c e (0, 0), s)) (hz : 0 < z) (hl : ∀ v ∈ l, v.cells.size = z)
    (hlen : l.length = len) (hc : len ≤ cap) (hf : ∀ (i : Nat) v, (flatC l)[i]? = some v → c[off + i]? = some v) (hn : off + len * z ≤ c.size) :
    Gh P h (.slice (some ⟨k, off, none⟩) len cap) (h.put k (some (.cells c e (0, 1), s))) (VSl l) := by
  intro E w u r rv
  have go : ∀ b cap', E.at_ k = some b → cap ≤ cap' → ∃ E', RW P E' (h.put k (some (.cells c e (0, 1), s))) w ∧ Ext E w E' w ∧ RV E' (VSl l) (.slice (some ⟨b, off, none⟩) len cap') := by
    intro b cap' hat hcap
    obtain ⟨c', h1, h2, h3, h4⟩ := rw_ice r hk hat
    refine ⟨_, h3, h4, ?_⟩
    have := RV.vs (E := E.still b c') (l := l) (b' := b) (off := off) (cap := cap') (s := z) (c := c') (by simp [Ren.still]) hz hl (by rw [hlen, h2]; exact hn) (by omega) fun i v v' hv hv' => h1 _ v v' (hf i v hv) hv'
    rw [hlen] at this
    exact this
  cases rv with
  | slice hat hs => exact go _ _ hat (Nat.le_refl _)
  | softSlice hat hs ho hcc hle => exact go _ _ hat hle
  | stub hs =>
    have : l = [] := List.eq_nil_of_length_eq_zero hlen
    subst this
    rename_i a' cap'
    obtain ⟨x, hx⟩ := Option.isSome_iff_exists.1 hs
    obtain ⟨b, hb⟩ := r.sdom k x hx
    obtain ⟨c', h1, h2, h3, h4⟩ := rw_ice r hk hb
    exact ⟨_, h3, h4, .vs0⟩

/-- an argument is said anew -/
theorem HC.gh {P : Program} {f : FuncId} {pre post : List Value} {v v' : Value} {h h' : AH} {Q : Res → AH → Prop} (g : Gh P h v h' v') (hh : HC P f (pre ++ v' :: post).toArray h' Q) : HC P f (pre ++ v :: post).toArray h Q := by
  intro E w args' r ra
  have hsz : args'.size = pre.length + (post.length + 1) := by rw [← ra.1]; simp
  have hv : RV E v (args'[pre.length]'(by omega)) := ra.2 pre.length v _ (by simp) (Array.getElem?_eq_getElem _)
  obtain ⟨E', r', x, rv'⟩ := g E w _ r hv
  have ra' : RA E' (pre ++ v' :: post).toArray args' := by
    refine ⟨by simp [hsz], fun i a b ha hb => ?_⟩
    by_cases e : i = pre.length
    · subst e
      simp at ha
      subst ha
      rw [Array.getElem?_eq_getElem (by omega)] at hb
      cases hb
      exact rv'
    · refine (ra.2 i a b ?_ hb).mono x.le
      simp only [List.getElem?_toArray] at ha ⊢
      rw [List.getElem?_append] at ha ⊢
      split
      · rename_i hlt; rw [if_pos hlt] at ha; exact ha
      · rename_i hge
        rw [if_neg hge] at ha
        obtain ⟨j, hj⟩ : ∃ j, i - pre.length = j + 1 := ⟨i - pre.length - 1, by omega⟩
        rw [hj] at ha ⊢
        simpa using ha
  exact (hh E' w args' r' ra').mono fun e w' ⟨E'', res, h'', q1, q2, q3, q4⟩ => ⟨E'', res, h'', q1, q2, x.trans q3, q4⟩

/-- an answer is said anew -/
theorem HC.ghRes {P : Program} {f : FuncId} {args : Array Value} {h : AH} {Q : Res → AH → Prop} (hh : HC P f args h fun r h₁ => ∃ v v' h₂, r = .ret v ∧ Gh P h₁ v h₂ v' ∧ Q (.ret v') h₂) : HC P f args h Q :=
  fun E w args' r ra => (hh E w args' r ra).mono fun e w' ⟨E', res, h₁, q1, q2, q3, v, v', h₂, e1, g, hq⟩ => by
    subst e1
    cases e with
    | returned u =>
      obtain ⟨E'', p1, p2, p3⟩ := g E' w' u q2 q1
      exact ⟨E'', .ret v', h₂, p3, p1, q3.trans p2, hq⟩
    | _ => cases q1

def Res.Below (n : Nat) : Res → Prop
  | .ret v => Ab.Below n v
  | .pan v => Ab.Below n v

/-- what a call made and nothing names any more is given up -/
theorem HC.tidy {P : Program} {f : FuncId} {args : Array Value} {h : AH} {Q : Res → AH → Prop}
    (hh : HC P f args h fun r h₁ => ∃ h₂, h₂.size = h.size ∧ (∀ k, k < h.size → ∀ y, h₂.get k = some y → h₁.get k = some y ∧ (BelowO h.size y.1 ∨ h.get k = some y)) ∧ (∀ k, h.size ≤ k → h₂.get k = none) ∧ r.Below h.size ∧ Q r h₂) :
    HC P f args h Q :=
  fun E w args' r ra => (hh E w args' r ra).mono fun e w' ⟨E', res, h₁, q1, q2, q3, h₂, e1, e2, e3, e4, hq⟩ => by
    obtain ⟨p1, p2⟩ := r.cut q2 q3 e1 fun k y hk => by
      by_cases hlt : k < h.size
      · exact ⟨hlt, e2 k hlt y hk⟩
      · rw [e3 k (by omega)] at hk; cases hk
    refine ⟨_, res, h₂, ?_, p1, p2, hq⟩
    cases res with
    | ret v =>
      cases e with
      | returned u => exact RV.cut q1 e4
      | _ => cases q1
    | pan v =>
      cases e with
      | panicked chain =>
        obtain ⟨u, hu, hv⟩ := q1
        exact ⟨u, hu, hv.cut e4⟩
      | _ => cases q1

/-- the same where the old heap is as it was -/
theorem HC.pure {P : Program} {f : FuncId} {args : Array Value} {h : AH} {Q : Res → AH → Prop}
    (hh : HC P f args h fun r h₁ => (∀ k y, h.get k = some y → h₁.get k = some y) ∧ r.Below h.size ∧ Q r h) : HC P f args h Q :=
  fun E w args' r ra => (hh E w args' r ra).mono fun e w' ⟨E', res, h₁, q1, q2, q3, e2, e4, hq⟩ => by
    obtain ⟨p1, p2⟩ := r.cut q2 q3 (h₂ := h) rfl fun k y hk => by
      obtain ⟨n, o', g1, _⟩ := r.live k y.1 y.2 hk
      exact ⟨(r.dom k n g1).1, e2 k y hk, .inr hk⟩
    refine ⟨_, res, h, ?_, p1, p2, hq⟩
    cases res with
    | ret v =>
      cases e with
      | returned u => exact RV.cut q1 e4
      | _ => cases q1
    | pan v =>
      cases e with
      | panicked chain =>
        obtain ⟨u, hu, hv⟩ := q1
        exact ⟨u, hu, hv.cut e4⟩
      | _ => cases q1

end Go.Ab

/- AbX -/
namespace Go.Ab
set_option linter.unusedVariables false

/-- a way into code -/
inductive Dir where
  | l | r | i

def cAt : Code → List Dir → Code
  | c, [] => c
  | .seq a _, .l :: p => cAt a p
  | .seq _ b, .r :: p => cAt b p
  | .cond _ a _, .l :: p => cAt a p
  | .cond _ _ b, .r :: p => cAt b p
  | .block _ a, .i :: p => cAt a p
  | .loop a, .i :: p => cAt a p
  | .scope a, .i :: p => cAt a p
  | c, _ => c

def ctxAt (P : Program) (L : Nat → Option (List Nat)) : Code → List Dir → (HX → AA → AH → Prop) → HX → AA → AH → Prop
  | _, [], Q => Q
  | .seq a b, .l :: p, Q => ctxAt P L a p (seqK (fun a h => wpC P L b (keepL L (rid b) a) h Q) Q)
  | .seq _ b, .r :: p, Q => ctxAt P L b p Q
  | .cond _ a _, .l :: p, Q => ctxAt P L a p Q
  | .cond _ _ b, .r :: p, Q => ctxAt P L b p Q
  | .block id a, .i :: p, Q => ctxAt P L a p (blockK id Q)
  | .loop c, .i :: p, Q => ctxAt P L c p (seqK (fun a h => HL P c (keepL L (rid c) a) h Q) Q)
  | .scope c, .i :: p, Q => ctxAt P L c p (scopeK (fun l a h => match findLabel c l with | some rest => HS P c rest (keepL L (rid rest) a) h Q | none => False) Q)
  | _, _, Q => Q

/-- just these temporaries are known -/
def mkA (n : Nat) : List (Nat × Value) → AA
  | [] => ⟨.leaf, n, {}⟩
  | (t, v) :: l => ⟨(mkA n l).tm.put (t + 1) (t + 1) (some v), n, {}⟩

/-- the same in a round of the loop k -/
def mkR (n k : Nat) (l : List (Nat × Value)) : AA := ⟨(mkA n l).tm, n, { loop := some k }⟩

/-- the parts of a range over a function -/
def rbody : Code → Code
  | .rangeFunc _ _ _ y => y
  | c => c
def rasg : Code → Code
  | .rangeFunc _ _ x _ => x
  | c => c
def rps : Code → Array Tmp
  | .rangeFunc _ ps _ _ => ps
  | _ => #[]

/-- a round, by its code's own form -/
def roundW (P : Program) (L : Nat → Option (List Nat)) (r : Loop) (k : Nat) (args : List Value) (h : AH) (K : Value → AH → Prop) : Prop :=
  wpC P L r.assign (roundA r k args) h (seqK (fun a h => bq (loopAt h k) fun q => q.1.state = .ready ∧ wpC P L r.body a (h.put k (some (.loop { q.1 with state := .busy }, q.2))) (roundK k K)) fun _ _ _ => False)

theorem roundP_of {P : Program} {L : Nat → Option (List Nat)} {r : Loop} {k : Nat} {args : List Value} {h : AH} {K : Value → AH → Prop} {s : Option Nat} (hl : loopAt h k = some (r, s)) (hlen : args.length = r.params.size)
    (hh : roundW P L r k args h K) : roundP P k args h K := by
  unfold roundP
  rw [hl]
  refine ⟨hlen, fun B ro E w x rw rx => wpIn_mono (wpC_ok _ hh B ro E w x rw rx) fun e y w' hp => hp.mono fun e a h hq => ?_⟩
  cases e with
  | normal =>
    obtain ⟨q, h1, h2, h3⟩ := bq_eq hq
    exact bq_of h1 ⟨h2, wpC_ok _ h3⟩
  | _ => exact hq

theorem condP_bool (b : Bool) (A B : Prop) : condP (some (.bool b)) A B = if b then A else B := rfl
@[simp] theorem condP_true (A B : Prop) : condP (some (.bool true)) A B = A := propext (Iff.intro (fun h => h) fun h => h)
@[simp] theorem condP_false (A B : Prop) : condP (some (.bool false)) A B = B := propext (Iff.intro (fun h => h) fun h => h)
@[simp] theorem guardQ_true (h : AH) (op : (Value → AH → Prop) → Prop) (k : Value → AH → Prop) : guardQ (.bool true) true h op k = op k := propext (guardQ_iff.trans (by simp [guardI]))
@[simp] theorem guardQ_false (h : AH) (op : (Value → AH → Prop) → Prop) (k : Value → AH → Prop) : guardQ (.bool false) true h op k = k undef h := propext (guardQ_iff.trans (by simp [guardI]))
@[simp] theorem guardQ_true' (h : AH) (op : (Value → AH → Prop) → Prop) (k : Value → AH → Prop) : guardQ (.bool true) false h op k = k undef h := propext (guardQ_iff.trans (by simp [guardI]))
@[simp] theorem guardQ_false' (h : AH) (op : (Value → AH → Prop) → Prop) (k : Value → AH → Prop) : guardQ (.bool false) false h op k = op k := propext (guardQ_iff.trans (by simp [guardI]))

end Go.Ab

/- AbStep -/
namespace Go.Ab
set_option linter.unusedVariables false

def ld1 (h : AH) (v : Value) : Option Value := match v with
  | .pointer (some a) => (opCells h a 1).bind (·[0]?)
  | .func (.yield 1) _ d => d[0]?
  | _ => none
def ldN (n : Nat) (h : AH) (v : Value) : Option Value := match v with
  | .pointer (some a) => (opCells h a n).map .agg
  | .func (.yield 1) _ d => if n ≤ d.size then some (.agg (d.extract 0 n)) else none
  | _ => none
def stN (n : Nat) (h : AH) (addr val : Value) : Option AH := match addr with
  | .pointer (some a) => if val.cells.size = n then opSetCells h a val.cells else none
  | _ => none
def bdF : Array Value → List (Nat × Nat × Value) → Option (Array Value)
  | cells, [] => some cells
  | cells, (off, size, v) :: rest => if v.cells.size ≠ size || off + v.cells.size > cells.size then none else bdF (setFrom cells off v.cells.toList) rest
def bd (z : Array Value) (parts : List (Nat × Nat × Value)) : Option Value := match bdF z parts with
  | some c => some (.agg c)
  | none => none
def bs (e : TypeId) (z : Array Value) (n : Nat) (h : AH) (parts : List (Nat × Nat × Value)) : Option (Value × AH) := match bdF z parts with
  | some c => some (.slice (some ⟨h.size, 0, none⟩) n n, h.push (.cells c e (0, 0)) none)
  | none => none
def fd1 (off : Nat) (v : Value) : Option Value := match v with
  | .agg cs => cs[off]?
  | _ => none
def fdN (off n : Nat) (v : Value) : Option Value := match v with
  | .agg cs => some (.agg (cs.extract off (off + n)))
  | _ => none
def fa (off n : Nat) (v : Value) : Option Value := match v with
  | .pointer (some a) => if a.spot.isSome then none else some (.pointer (some (a.add off)))
  | .func (.yield 1) _ d => if off + n ≤ d.size then some (FPv (d.extract off (off + n))) else none
  | _ => none
/-- the address of an element of a slice -/
def ia (n : Nat) (x ix : Value) : Option Value := match ix with
  | .int k i => match x with
    | .slice (some a) len _ => if a.spot.isSome then none else if 0 ≤ i ∧ i < len then some (.pointer (some (a.add (i.toNat * n)))) else none
    | .func (.yield 0) _ l => if 0 ≤ i then match l[i.toNat]? with
        | some v => if v.cells.size = n then some (FPv v.cells) else none
        | none => none
        else none
    | _ => none
  | _ => none
/-- of an array that an address is of -/
def iaA (len n : Nat) (x ix : Value) : Option Value := match ix with
  | .int k i => match x with
    | .pointer (some a) => if a.spot.isSome then none else if 0 ≤ i ∧ i < len then some (.pointer (some (a.add (i.toNat * n)))) else none
    | .func (.yield 1) _ c => if 0 ≤ i ∧ i < len ∧ i.toNat * n + n ≤ c.size then some (FPv (c.extract (i.toNat * n) (i.toNat * n + n))) else none
    | _ => none
  | _ => none
def ixS (x ix : Value) : Option Value := match ix with
  | .int k i => match x with
    | .string s => if 0 ≤ i ∧ i.toNat < s.size then some (.int .u8 s[i.toNat]!.toNat) else none
    | _ => none
  | _ => none
def lenL (x : Value) : Option Value := match x with
  | .slice _ n _ => some (goInt n)
  | .func (.yield 0) _ l => some (goInt l.size)
  | _ => none
def lenS (x : Value) : Option Value := match x with
  | .string s => some (goInt s.size)
  | _ => none
def lenM (h : AH) (x : Value) : Option Value := match x with
  | .map none => some (goInt 0)
  | .map (some r) => match h.get r with
    | some (.map es _, _) => some (goInt es.size)
    | _ => none
  | _ => none
def mi (t : TypeId) (x : Value) : Option Value := some (.iface t x)

def apT (e : TypeId) (size bytes : Nat) (zero : Option Value) (h : AH) (s x : Value) : Option (Value × AH) :=
  match lenOf? x with
  | some n => match opFirst h size n x, s with
    | some new, .slice base sLen sCap =>
      if new.size = n * size then
      if sLen + n ≤ sCap then
        match base with
        | none => some (.slice none (sLen + n) sCap, h)
        | some a => if n * size = 0 then some (.slice base (sLen + n) sCap, h) else
          if a.spot.isSome then none else match opSetCells h (a.add (sLen * size)) new with
          | some h' => some (.slice base (sLen + n) sCap, h')
          | none => none
      else if 0 < size ∧ 0 < bytes ∧ bytes < 2 ^ 30 ∧ (sLen + n) * bytes < 2 ^ 40 ∧ (zero.any fun z => z.cells.size = size) then
        match opFirst h size sLen s with
        | some old => if old.size = sLen * size then match base with
          | none => some (.slice (some ⟨h.size, 0, none⟩) (sLen + n) (sLen + n), h.push (.cells (old ++ new) e (0, 0)) (some size))
          | some a => match h.get a.block with
            | some (_, none) => some (.slice (some ⟨h.size, 0, none⟩) (sLen + n) (sLen + n), h.push (.cells (old ++ new) e (0, 0)) (some size))
            | some (.cells _ e' fz, some z) => if fz = (0, 0) ∧ z = size ∧ e' = e ∧ a.off = 0 ∧ a.spot = none ∧ 0 < sCap ∧ new.toList.all Value.oneCell' then
                some (.slice (some ⟨h.size, 0, none⟩) (sLen + n) (sLen + n), (h.put a.block none).push (.cells (old ++ new) e (0, 0)) (some size))
                else none
            | _ => none
          else none
        | none => none
      else none
      else none
    | _, _ => none
  | _ => none

/-- a walk over a map begins -/
def rngE (h : AH) (m : Nat) : Option (Obj × Option Nat) → Option (Value × AH)
  | some (.map _ clock, _) => some (.pointer (some ⟨h.size, 0, none⟩), h.push (.mapIter (some m) clock #[] clock) none)
  | _ => none
end Go.Ab

/- AbLem -/
namespace Go.Ab
set_option linter.unusedVariables false
set_option linter.unusedSimpArgs false

@[congr] theorem bq_congr {α : Type} {o o' : Option α} {k : α → Prop} (e : o = o') : bq o k = bq o' k := by rw [e]
@[congr] theorem condP_congr {o o' : Option Value} {A B : Prop} (e : o = o') : condP o A B = condP o' A B := by rw [e]
@[congr] theorem guardQ_congr {x x' : Value} {w : Bool} {h : AH} {op : (Value → AH → Prop) → Prop} {k : Value → AH → Prop} (e : x = x') : guardQ x w h op k = guardQ x' w h op k := by rw [e]
@[congr] theorem HC_congr {P : Program} {f : FuncId} {args args' : Array Value} {h : AH} {Q : Res → AH → Prop} (e : args = args') : HC P f args h Q = HC P f args' h Q := by rw [e]
@[congr] theorem exP_congr {P : Program} {f : FuncId} {args args' : Array Value} {h : AH} {k : Value → AH → Prop} (e : args = args') : exP P f args h k = exP P f args' h k := by rw [e]
@[congr] theorem callP_congr {P : Program} {f f' : Value} {args : List Value} {h : AH} {k pk : Value → AH → Prop} (e : f = f') : callP P f args h k pk = callP P f' args h k pk := by rw [e]
@[congr] theorem callX_congr {P : Program} {f f' : Value} {args : List Value} {h : AH} {k : Value → AH → Prop} (e : f = f') : callX P f args h k = callX P f' args h k := by rw [e]
@[congr] theorem invokeP_congr {P : Program} {f f' : Value} {n : String} {args : List Value} {h : AH} {k pk : Value → AH → Prop} (e : f = f') : invokeP P f n args h k pk = invokeP P f' n args h k pk := by rw [e]
@[congr] theorem invokeX_congr {P : Program} {f f' : Value} {n : String} {args : List Value} {h : AH} {k : Value → AH → Prop} (e : f = f') : invokeX P f n args h k = invokeX P f' n args h k := by rw [e]
@[congr] theorem nextP_congr {P : Program} {it it' : Value} {b : Bool} {h : AH} {k : Value → AH → Prop} (e : it = it') : nextP P h it b k = nextP P h it' b k := by rw [e]

theorem condP_ite {p : Prop} [Decidable p] {A B : Prop} (ha : p → A) (hb : ¬p → B) : condP (some (.bool (decide p))) A B := by
  by_cases h : p
  · simpa [h] using ha h
  · simpa [h] using hb h
theorem condP_iff {b : Bool} {A B : Prop} (ha : b = true → A) (hb : b = false → B) : condP (some (.bool b)) A B := by
  cases b
  · exact hb rfl
  · exact ha rfl

/-! the heap -/
theorem get_push_eq {h : AH} {o : Obj} {s : Option Nat} {j : Nat} (e : j = h.size) : (h.push o s).get j = some (o, s) := by rw [AH.get_push, if_pos e]
theorem get_push_ne {h : AH} {o : Obj} {s : Option Nat} {j : Nat} (e : j ≠ h.size) : (h.push o s).get j = h.get j := by rw [AH.get_push, if_neg e]
theorem get_put_eq {h : AH} {k : Nat} {v : Option (Obj × Option Nat)} {j : Nat} (e : j = k) : (h.put k v).get j = v := by rw [AH.get_put, if_pos e]
theorem get_put_ne {h : AH} {k : Nat} {v : Option (Obj × Option Nat)} {j : Nat} (e : j ≠ k) : (h.put k v).get j = h.get j := by rw [AH.get_put, if_neg e]

theorem get_push_e {h : AH} {o : Obj} {s : Option Nat} {j : Nat} (e : (j == h.size) = true) : (h.push o s).get j = some (o, s) := get_push_eq (by simpa using e)
theorem get_put_e {h : AH} {k : Nat} {v : Option (Obj × Option Nat)} {j : Nat} (e : (j == k) = true) : (h.put k v).get j = v := get_put_eq (by simpa using e)

theorem sz_push {h : AH} {o : Obj} {s : Option Nat} : (h.push o s).size = h.size + 1 := by rw [AH.size_push]
theorem sz_put {h : AH} {k : Nat} {v : Option (Obj × Option Nat)} : (h.put k v).size = h.size := by rw [AH.size_put]

def rowC : Option (Obj × Option Nat) → Option (Array Value)
  | some (.cells c _ _, _) => some c
  | _ => none
theorem rowC_cells {c : Array Value} {e : TypeId} {fz : Nat × Nat} {s : Option Nat} : rowC (some (.cells c e fz, s)) = some c := rfl

def setC (h : AH) (k off : Nat) (vs : Array Value) : Option (Obj × Option Nat) → Option AH
  | some (.cells c e fz, s) => if fz = (0, 0) ∧ off + vs.size ≤ c.size ∧ vs.toList.all Value.oneCell' = true then some (h.put k (some (.cells (setFrom c off vs.toList) e (0, 0), s))) else none
  | _ => none
theorem setC_cells {h : AH} {k off : Nat} {vs c : Array Value} {e : TypeId} {s : Option Nat} (h1 : off + vs.size ≤ c.size) (h2 : vs.toList.all Value.oneCell' = true) :
    setC h k off vs (some (.cells c e (0, 0), s)) = some (h.put k (some (.cells (setFrom c off vs.toList) e (0, 0), s))) := by
  show (if (0, 0) = ((0, 0) : Nat × Nat) ∧ off + vs.size ≤ c.size ∧ vs.toList.all Value.oneCell' = true then _ else none) = _
  rw [if_pos ⟨rfl, h1, h2⟩]

theorem ld1_ptr {h : AH} {k off : Nat} : ld1 h (.pointer (some ⟨k, off, none⟩)) = (rowC (h.get k)).bind fun c => c[off]? := by
  unfold ld1 opCells
  simp only [Option.isSome_none, Bool.false_eq_true, if_false]
  generalize h.get k = g
  rcases g with _ | ⟨o, s⟩
  · rfl
  · cases o with
    | cells c e fz =>
      show Option.bind (if off + 1 ≤ c.size then some (c.extract off (off + 1)) else none) _ = c[off]?
      by_cases hle : off + 1 ≤ c.size
      · rw [if_pos hle]
        show (c.extract off (off + 1))[0]? = _
        rw [Array.getElem?_extract, if_pos (by omega), Nat.add_zero]
      · rw [if_neg hle, Array.getElem?_eq_none (by omega)]; rfl
    | _ => rfl
theorem ld1_fp {h : AH} {d : Array Value} : ld1 h (FPv d) = d[0]? := rfl
theorem ldN_ptr {n : Nat} {h : AH} {k off : Nat} : ldN n h (.pointer (some ⟨k, off, none⟩)) = (rowC (h.get k)).bind fun c => if off + n ≤ c.size then some (.agg (c.extract off (off + n))) else none := by
  unfold ldN opCells
  simp only [Option.isSome_none, Bool.false_eq_true, if_false]
  generalize h.get k = g
  rcases g with _ | ⟨o, s⟩
  · rfl
  · cases o with
    | cells c e fz =>
      show Option.map _ (if off + n ≤ c.size then some (c.extract off (off + n)) else none) = if off + n ≤ c.size then _ else none
      by_cases hle : off + n ≤ c.size
      · rw [if_pos hle, if_pos hle]; rfl
      · rw [if_neg hle, if_neg hle]; rfl
    | _ => rfl
theorem ldN_fp {n : Nat} {h : AH} {d : Array Value} : ldN n h (FPv d) = if n ≤ d.size then some (.agg (d.extract 0 n)) else none := rfl
theorem stN_ptr {n : Nat} {h : AH} {k off : Nat} {v : Value} : stN n h (.pointer (some ⟨k, off, none⟩)) v = if v.cells.size = n then setC h k off v.cells (h.get k) else none := by
  unfold stN opSetCells
  simp only [Option.isSome_none, Bool.false_eq_true, if_false]
  congr 1
theorem fa_ptr {off n k o : Nat} : fa off n (.pointer (some ⟨k, o, none⟩)) = some (.pointer (some ⟨k, o + off, none⟩)) := by
  simp only [fa, Option.isSome_none, Bool.false_eq_true, if_false, add_off]
theorem fa_fp {off n : Nat} {d : Array Value} : fa off n (FPv d) = if off + n ≤ d.size then some (FPv (d.extract off (off + n))) else none := rfl
theorem fd1_agg {off : Nat} {c : Array Value} : fd1 off (.agg c) = c[off]? := rfl
theorem fdN_agg {off n : Nat} {c : Array Value} : fdN off n (.agg c) = some (.agg (c.extract off (off + n))) := rfl
theorem ia_vs {n : Nat} {l : List Value} {k : IntKind} {i : Int} : ia n (VSl l) (.int k i) = if 0 ≤ i then (l[i.toNat]?).bind (fun v => if v.cells.size = n then some (FPv v.cells) else none) else none := by
  show (if 0 ≤ i then (match l.toArray[i.toNat]? with | some v => if v.cells.size = n then some (FPv v.cells) else none | none => none) else none) = _
  rw [List.getElem?_toArray]
  split
  · cases l[i.toNat]? <;> rfl
  · rfl
theorem ia_sl {n b o len cap : Nat} {k : IntKind} {i : Int} : ia n (.slice (some ⟨b, o, none⟩) len cap) (.int k i) = if 0 ≤ i ∧ i < len then some (.pointer (some ⟨b, o + i.toNat * n, none⟩)) else none := by
  simp only [ia, Option.isSome_none, Bool.false_eq_true, if_false, add_off]
theorem iaA_ptr {len n b o : Nat} {k : IntKind} {i : Int} : iaA len n (.pointer (some ⟨b, o, none⟩)) (.int k i) = if 0 ≤ i ∧ i < len then some (.pointer (some ⟨b, o + i.toNat * n, none⟩)) else none := by
  simp only [iaA, Option.isSome_none, Bool.false_eq_true, if_false, add_off]
theorem iaA_fp {len n : Nat} {c : Array Value} {k : IntKind} {i : Int} : iaA len n (FPv c) (.int k i) = if 0 ≤ i ∧ i < len ∧ i.toNat * n + n ≤ c.size then some (FPv (c.extract (i.toNat * n) (i.toNat * n + n))) else none := rfl
theorem lenL_vs {l : List Value} : lenL (VSl l) = some (.int .i64 l.length) := by
  show some (goInt l.toArray.size) = _
  rw [List.size_toArray]; rfl
theorem lenL_sl {a : Option Addr} {n c : Nat} : lenL (.slice a n c) = some (.int .i64 n) := rfl
theorem lenS_s {s : ByteArray} : lenS (.string s) = some (.int .i64 s.size) := rfl
theorem lenM_nil {h : AH} : lenM h (.map none) = some (.int .i64 0) := rfl
def lenE : Option (Obj × Option Nat) → Option Value
  | some (.map es _, _) => some (.int .i64 es.size)
  | _ => none
theorem lenE_map {es : Array MapEntry} {t : Nat} {s : Option Nat} : lenE (some (.map es t, s)) = some (.int .i64 es.size) := rfl
theorem lenM_map {h : AH} {r : Nat} : lenM h (.map (some r)) = lenE (h.get r) := by
  unfold lenM
  simp only
  generalize h.get r = g
  rcases g with _ | ⟨o, s⟩
  · rfl
  · cases o <;> rfl
theorem rngE_map {h : AH} {m : Nat} {es : Array MapEntry} {t : Nat} {s : Option Nat} : rngE h m (some (.map es t, s)) = some (.pointer (some ⟨h.size, 0, none⟩), h.push (.mapIter (some m) t #[] t) none) := rfl
theorem opExtract_tuple {c : Array Value} {i : Nat} : opExtract (.tuple c) i = c[i]? := rfl
theorem nilV_ptr {P : Program} {a : Addr} : nilV P (.pointer (some a)) = some (.pointer (some a)) := rfl
theorem nilV_iface {P : Program} {t : TypeId} {v : Value} : nilV P (.iface t v) = some (.iface t v) := rfl
theorem nilV_func {P : Program} {f : FuncId} {a b : Array Value} : nilV P (.func (.func f) a b) = some (.func (.func f) a b) := rfl
theorem nilV_fp {P : Program} {c : Array Value} : nilV P (FPv c) = some (FPv c) := rfl
theorem pickV_bool {b : Bool} {x y : Value} : pickV (.bool b) x y = some (if b then x else y) := Option.ext fun a => Iff.intro (fun h => h) fun h => h
theorem cells_agg {c : Array Value} : (Value.agg c).cells = c := rfl
theorem cells_int {k : IntKind} {n : Int} : (Value.int k n).cells = #[.int k n] := rfl
theorem cells_bool {b : Bool} : (Value.bool b).cells = #[.bool b] := rfl
theorem cells_string {s : ByteArray} : (Value.string s).cells = #[.string s] := rfl
theorem cells_pointer {a : Option Addr} : (Value.pointer a).cells = #[.pointer a] := rfl
theorem cells_slice {a : Option Addr} {n c : Nat} : (Value.slice a n c).cells = #[.slice a n c] := rfl
theorem cells_map {r : Option Nat} : (Value.map r).cells = #[.map r] := rfl
theorem cells_iface {t : TypeId} {v : Value} : (Value.iface t v).cells = #[.iface t v] := rfl
theorem cells_nilIface : (Value.nilIface).cells = #[.nilIface] := rfl
theorem cells_func {f : Fn} {a b : Array Value} : (Value.func f a b).cells = #[.func f a b] := rfl
theorem cells_float {k : FloatKind} {b : Nat} : (Value.float k b).cells = #[.float k b] := rfl
theorem cells_complex {k : FloatKind} {a b : Nat} : (Value.complex k a b).cells = #[.complex k a b] := rfl
theorem cells_vs {l : List Value} : (VSl l).cells = #[VSl l] := rfl
theorem cells_fp {c : Array Value} : (FPv c).cells = #[FPv c] := rfl
theorem one_int {k : IntKind} {n : Int} : (Value.int k n).oneCell' = true := rfl
theorem one_bool {b : Bool} : (Value.bool b).oneCell' = true := rfl
theorem one_string {s : ByteArray} : (Value.string s).oneCell' = true := rfl
theorem one_pointer {a : Option Addr} : (Value.pointer a).oneCell' = true := rfl
theorem one_slice {a : Option Addr} {n c : Nat} : (Value.slice a n c).oneCell' = true := rfl
theorem one_map {r : Option Nat} : (Value.map r).oneCell' = true := rfl
theorem one_iface {t : TypeId} {v : Value} : (Value.iface t v).oneCell' = true := rfl
theorem one_nilIface : (Value.nilIface).oneCell' = true := rfl
theorem one_func {f : Fn} {a b : Array Value} : (Value.func f a b).oneCell' = true := rfl
theorem one_float {k : FloatKind} {b : Nat} : (Value.float k b).oneCell' = true := rfl
theorem one_complex {k : FloatKind} {a b : Nat} : (Value.complex k a b).oneCell' = true := rfl
theorem one_vs {l : List Value} : (VSl l).oneCell' = true := rfl
theorem one_fp {c : Array Value} : (FPv c).oneCell' = true := rfl
theorem setFrom_nil {c : Array Value} {k : Nat} : setFrom c k [] = c := rfl
theorem setFrom_cons {c : Array Value} {k : Nat} {v : Value} {l : List Value} : setFrom c k (v :: l) = setFrom (c.setIfInBounds k v) (k + 1) l := rfl
theorem bd_eq {z : Array Value} {l : List (Nat × Nat × Value)} : bd z l = (bdF z l).map .agg := by unfold bd; cases bdF z l <;> rfl
theorem bdF_nil {z : Array Value} : bdF z [] = some z := rfl
theorem bdF_cons {z : Array Value} {off n : Nat} {v : Value} {l : List (Nat × Nat × Value)} (h1 : v.cells.size = n) (h2 : off + n ≤ z.size) : bdF z ((off, n, v) :: l) = bdF (setFrom z off v.cells.toList) l := by
  show (if (v.cells.size ≠ n || off + v.cells.size > z.size) = true then none else bdF (setFrom z off v.cells.toList) l) = _
  rw [if_neg]
  intro hh
  simp only [h1, ne_eq, not_true_eq_false, decide_false, Bool.false_or, decide_eq_true_eq] at hh
  omega
theorem bs_eq {e : TypeId} {z : Array Value} {n : Nat} {h : AH} {l : List (Nat × Nat × Value)} : bs e z n h l = (bdF z l).map fun c => (.slice (some ⟨h.size, 0, none⟩) n n, h.push (.cells c e (0, 0)) none) := by unfold bs; cases bdF z l <;> rfl
theorem new1 {h : AH} {e : TypeId} {c : Array Value} : (opNew h e c).1 = .pointer (some ⟨h.size, 0, none⟩) := rfl
theorem new2 {h : AH} {e : TypeId} {c : Array Value} : (opNew h e c).2 = h.push (.cells c e (0, 0)) none := rfl
theorem mm1 {h : AH} : (opMakeMap h).1 = .map (some h.size) := rfl
theorem mm2 {h : AH} : (opMakeMap h).2 = h.push (.map #[] 0) none := rfl
theorem wrap64 {x : Int} (h1 : -9223372036854775808 ≤ x) (h2 : x ≤ 9223372036854775807) : IntKind.i64.wrap x = x := IntWalk.i64_in x ⟨h1, h2⟩
theorem callX_func {P : Program} {f : FuncId} {a b : Array Value} {args : List Value} {h : AH} {k : Value → AH → Prop} (hb : hasBody P f = true) :
    callX P (.func (.func f) a b) args h k = exP P f (a.toList ++ args ++ b.toList).toArray h k := by
  unfold hasBody at hb
  show enterX P f _ h k = _
  unfold enterX
  split at hb
  · rename_i fn hf
    simp only [Bool.and_eq_true, Bool.not_eq_true'] at hb
    try rw [hf]
    simp only [hb.1, Bool.false_eq_true, if_false]
    rw [if_neg (by cases hq : fn.body with | none => rw [hq] at hb; cases hb.2 | some _ => simp)]
  · cases hb
theorem callP_func {P : Program} {f : FuncId} {a b : Array Value} {args : List Value} {h : AH} {k pk : Value → AH → Prop} (hb : hasBody P f = true) :
    callP P (.func (.func f) a b) args h k pk = HC P f (a.toList ++ args ++ b.toList).toArray h (resK k pk) := by
  unfold hasBody at hb
  show enterP P f _ h k pk = _
  unfold enterP
  split at hb
  · rename_i fn hf
    simp only [Bool.and_eq_true, Bool.not_eq_true'] at hb
    try rw [hf]
    simp only [hb.1, Bool.false_eq_true, if_false]
    rw [if_neg (by cases hq : fn.body with | none => rw [hq] at hb; cases hb.2 | some _ => simp)]
  · cases hb
theorem exP_of {P : Program} {f : FuncId} {args : Array Value} {h h' : AH} {v : Value} {k : Value → AH → Prop} (a : Ex P f args h v h') (hk : k v h') : exP P f args h k := ⟨v, h', a, hk⟩

/-! slices that grow -/

/-- a slice that no other value shares, and its elements -/
inductive Hld (e z : Nat) (h : AH) (lo : Nat) : Value → List Value → Prop
  | nil : Hld e z h lo (.slice none 0 0) []
  | row {k : Nat} {c : Array Value} {l : List Value} (hk : lo ≤ k) (hg : h.get k = some (.cells c e (0, 0), some z)) (hc : c = (flatC l).toArray) (hp : 0 < l.length) : Hld e z h lo (.slice (some ⟨k, 0, none⟩) l.length l.length) l

def blkOf : Value → Option Nat
  | .slice (some a) _ _ => some a.block
  | .pointer (some a) => some a.block
  | .map (some r) => some r
  | _ => none

/-- what is old stays -/
structure Kp (lo : Nat) (h h' : AH) : Prop where
  size : h.size ≤ h'.size
  get : ∀ k, k < lo → h'.get k = h.get k

theorem Kp.refl (lo : Nat) (h : AH) : Kp lo h h := ⟨Nat.le_refl _, fun _ _ => rfl⟩
theorem Kp.trans {lo : Nat} {a b c : AH} (x : Kp lo a b) (y : Kp lo b c) : Kp lo a c := ⟨Nat.le_trans x.size y.size, fun k hk => (y.get k hk).trans (x.get k hk)⟩
theorem Kp.push {lo : Nat} {h h' : AH} (x : Kp lo h h') (o : Obj) (s : Option Nat) (hl : lo ≤ h'.size) : Kp lo h (h'.push o s) :=
  ⟨Nat.le_trans x.size (by simp), fun k hk => by rw [get_push_ne (by omega)]; exact x.get k hk⟩
theorem Kp.put {lo : Nat} {h h' : AH} (x : Kp lo h h') (j : Nat) (v : Option (Obj × Option Nat)) (hl : lo ≤ j) : Kp lo h (h'.put j v) :=
  ⟨x.size, fun k hk => by rw [get_put_ne (by omega)]; exact x.get k hk⟩
theorem Kp.less {lo lo' : Nat} {h h' : AH} (x : Kp lo h h') (hl : lo' ≤ lo) : Kp lo' h h' := ⟨x.size, fun k hk => x.get k (by omega)⟩

theorem Hld.mono {e z : Nat} {h h' : AH} {lo : Nat} {s : Value} {l : List Value} (o : Hld e z h lo s l) (hg : ∀ k, blkOf s = some k → h'.get k = h.get k) : Hld e z h' lo s l := by
  cases o with
  | nil => exact .nil
  | row hk h1 hc hp => exact .row hk ((hg _ rfl).trans h1) hc hp
theorem Hld.lo {e z : Nat} {h : AH} {lo lo' : Nat} {s : Value} {l : List Value} (o : Hld e z h lo s l) (hl : lo' ≤ lo) : Hld e z h lo' s l := by
  cases o with
  | nil => exact .nil
  | row hk h1 hc hp => exact .row (Nat.le_trans hl hk) h1 hc hp
theorem Hld.len {e z : Nat} {h : AH} {lo : Nat} {s : Value} {l : List Value} (o : Hld e z h lo s l) : lenL s = some (.int .i64 l.length) := by
  cases o <;> rfl

/-- what is appended -/
def Src (h : AH) (z : Nat) (x : Value) (m : List Value) : Prop := lenOf? x = some m.length ∧ opFirst h z m.length x = some (flatC m).toArray

theorem Src.vs {h : AH} {z : Nat} {m : List Value} (hz : ∀ v ∈ m, v.cells.size = z) (hp : 0 < z) : Src h z (VSl m) m := by
  refine ⟨by show some m.toArray.size = _; simp, ?_⟩
  show (if m.length * z = 0 then some #[] else if (m.toArray[0]?).all (·.cells.size = z) ∧ m.length ≤ m.toArray.size then some (flatC (m.toArray.toList.take m.length)).toArray else none) = _
  cases m with
  | nil => simp [flatC]
  | cons a m =>
    rw [if_neg (Nat.mul_ne_zero (by simp) (by omega)), if_pos]
    · simp
    · simp [hz a (by simp)]
theorem Src.nil {h : AH} {z n c : Nat} : Src h z (.slice none 0 c) [] := ⟨rfl, by simp [opFirst, flatC]⟩
theorem Src.row {h : AH} {z k off cap : Nat} {c : Array Value} {e : TypeId} {fz : Nat × Nat} {s : Option Nat} {m : List Value} (hg : h.get k = some (.cells c e fz, s)) (hz : ∀ v ∈ m, v.cells.size = z) (hc : off + m.length * z ≤ c.size) (hm : c.extract off (off + m.length * z) = (flatC m).toArray) :
    Src h z (.slice (some ⟨k, off, none⟩) m.length cap) m := by
  refine ⟨rfl, ?_⟩
  show (if m.length * z = 0 then some #[] else opCells h ⟨k, off, none⟩ (m.length * z)) = _
  split
  · rename_i h0
    have : (flatC m).length = 0 := by rw [flatC_length hz]; exact h0
    rw [List.eq_nil_of_length_eq_zero this]
  · unfold opCells
    simp only [Option.isSome_none, Bool.false_eq_true, if_false, hg]
    rw [if_pos hc, hm]

theorem Hld.src {e z : Nat} {h : AH} {lo : Nat} {s : Value} {l : List Value} (o : Hld e z h lo s l) (hz : ∀ v ∈ l, v.cells.size = z) : Src h z s l := by
  cases o with
  | nil => exact Src.nil (n := 0)
  | row hk h1 hc hp =>
    have hl := flatC_length hz
    refine Src.row h1 hz ?_ ?_
    · rw [hc]; simp [hl]
    · rw [hc, Nat.zero_add, ← hl]; simp

theorem Hld.append {e z bytes lo : Nat} {zero : Value} {h : AH} {s x : Value} {l m : List Value} (o : Hld e z h lo s l) (hx : Src h z x m) (hlo : lo ≤ h.size) (hl : ∀ v ∈ l, v.cells.size = z) (hm : ∀ v ∈ m, v.cells.size = z) (hone : ∀ v ∈ flatC m, v.oneCell' = true)
    (hz : 0 < z) (hb : 0 < bytes) (hb' : bytes < 1073741824) (hzero : zero.cells.size = z) (hs : (l.length + m.length) * bytes < 1099511627776) :
    ∃ s' h', apT e z bytes (some zero) h s x = some (s', h') ∧ Hld e z h' lo s' (l ++ m) ∧ h.size ≤ h'.size ∧ (∀ k, k < h.size → blkOf s ≠ some k → h'.get k = h.get k) ∧ (blkOf s' = blkOf s ∨ ∃ k, blkOf s' = some k ∧ h.size ≤ k ∧ k < h'.size) := by
  have hlm := flatC_length hm
  have hll := flatC_length hl
  obtain ⟨h1, h2⟩ := hx
  have hfm : (flatC m).toArray.size = m.length * z := by simp [hlm]
  have hcat : flatC (l ++ m) = flatC l ++ flatC m := by simp [flatC]
  cases o with
  | nil =>
    unfold apT
    simp only [h1, h2, hfm, if_true, Nat.zero_add]
    by_cases h0 : m = []
    · subst h0
      refine ⟨.slice none 0 0, h, by simp, .nil, Nat.le_refl _, fun _ _ _ => rfl, .inl rfl⟩
    · have hp : 0 < m.length := List.length_pos_iff.2 h0
      rw [if_neg (by omega), if_pos ⟨hz, hb, by simpa using hb', by simpa using hs, by simpa using hzero⟩]
      refine ⟨_, _, ?_, Hld.row (k := h.size) (l := m) hlo (get_push_eq rfl) rfl hp, by simp, fun k hk _ => get_push_ne (by omega), .inr ⟨h.size, rfl, Nat.le_refl _, by simp⟩⟩
      simp [opFirst]
  | row hk hg hc hp =>
    rename_i k c
    unfold apT
    simp only [h1, h2, hfm, if_true]
    by_cases h0 : m = []
    · subst h0
      refine ⟨.slice (some ⟨k, 0, none⟩) l.length l.length, h, by simp, by simpa using Hld.row hk hg hc hp, Nat.le_refl _, fun _ _ _ => rfl, .inl rfl⟩
    · have hpm : 0 < m.length := List.length_pos_iff.2 h0
      have hsrc := (Hld.src (Hld.row (lo := lo) hk hg hc hp) hl).2
      rw [if_neg (by omega), if_pos ⟨hz, hb, by simpa using hb', by simpa using hs, by simpa using hzero⟩, hsrc]
      have hfl : (flatC l).toArray.size = l.length * z := by simp [hll]
      simp only [hfl, if_true, hg]
      rw [if_pos ⟨trivial, trivial, trivial, trivial, trivial, hp, by simpa using hone⟩]
      refine ⟨_, _, rfl, ?_, by simp, fun j hj hne => ?_, .inr ⟨h.size, rfl, Nat.le_refl _, by simp⟩⟩
      · have := Hld.row (e := e) (z := z) (h := (h.put k none).push (.cells ((flatC l).toArray ++ (flatC m).toArray) e (0, 0)) (some z)) (lo := lo) (k := h.size) (l := l ++ m) hlo (get_push_eq rfl) (by rw [hcat]; simp) (by simp; omega)
        simpa using this
      · rw [get_push_ne (by simp; omega), get_put_ne (fun e => hne (by rw [e]; rfl))]

theorem Hld.key {e z : Nat} {h : AH} {lo : Nat} {s : Value} {l : List Value} (o : Hld e z h lo s l) : ∀ k, blkOf s = some k → lo ≤ k := by
  intro k hk
  cases o with
  | nil => cases hk
  | row h1 _ _ _ => injection hk with hk; subst hk; exact h1

/-- one element is appended -/
theorem Hld.append1 {e z bytes lo : Nat} {zero v : Value} {h : AH} {s : Value} {l : List Value} {c : Array Value} (o : Hld e z h lo s l) (hc : v.cells = c) (hs2 : ∀ k, blkOf s = some k → k < h.size) (hlo : lo ≤ h.size) (hl : ∀ v ∈ l, v.cells.size = z)
    (hv : c.size = z) (hone : ∀ x ∈ c.toList, x.oneCell' = true) (hz : 0 < z) (hb : 0 < bytes) (hb' : bytes < 1073741824) (hzero : zero.cells.size = z) (hs : (l.length + 1) * bytes < 1099511627776) :
    ∃ s' h', apT e z bytes (some zero) (h.push (.cells c e (0, 0)) none) s (.slice (some ⟨h.size, 0, none⟩) 1 1) = some (s', h') ∧ Hld e z h' lo s' (l ++ [v]) ∧ h.size ≤ h'.size ∧ (∀ k, k < h.size → blkOf s ≠ some k → h'.get k = h.get k) ∧
      (blkOf s' = blkOf s ∨ ∃ k, blkOf s' = some k ∧ h.size ≤ k ∧ k < h'.size) := by
  subst hc
  have hfl : flatC [v] = v.cells.toList := by simp [flatC]
  have hx : Src (h.push (.cells v.cells e (0, 0)) none) z (.slice (some ⟨h.size, 0, none⟩) 1 1) [v] := by
    refine Src.row (m := [v]) (get_push_eq rfl) (fun x hx => by rw [List.mem_singleton.1 hx]; exact hv) (by simp [hv]) ?_
    rw [hfl]; simp [hv]
  have o' : Hld e z (h.push (.cells v.cells e (0, 0)) none) lo s l := o.mono fun k hk => get_push_ne (by have := hs2 k hk; omega)
  obtain ⟨s', h', a1, a2, a3, a4, a5⟩ := o'.append hx (by simp; omega) hl (fun x hx => by rw [List.mem_singleton.1 hx]; exact hv) (fun x hx => hone x (by rw [hfl] at hx; exact hx)) hz hb hb' hzero hs
  simp only [AH.size_push] at a3 a4 a5
  refine ⟨s', h', a1, a2, by omega, fun k hk hne => (a4 k (by omega) hne).trans (get_push_ne (by omega)), ?_⟩
  rcases a5 with e | ⟨k, e, h1, h2⟩
  · exact .inl e
  · exact .inr ⟨k, e, by omega, h2⟩

/-- a slice is given back, frozen; all else is given up -/
theorem Hld.freeze {P : Program} {e z lo : Nat} {h : AH} {s : Value} {l : List Value} (o : Hld e z h lo s l) (hz : 0 < z) (hl : ∀ v ∈ l, v.cells.size = z) :
    (s = .slice none 0 0 ∧ l = []) ∨ ∃ h₂, Gh P h s h₂ (VSl l) ∧ (∀ k, k < lo → h₂.get k = h.get k) ∧ h₂.size = h.size := by
  cases o with
  | nil => exact .inl ⟨rfl, rfl⟩
  | row hk hg hc hp =>
    rename_i k c
    refine .inr ⟨_, Gh.slice (l := l) hg hz hl rfl (Nat.le_refl _) (fun i v hv => ?_) ?_, fun j hj => get_put_ne (by omega), rfl⟩
    · rw [hc]; simpa using hv
    · rw [hc]; simp [flatC_length hl]

theorem plain_int {n : Nat} {k : IntKind} {x : Int} : plainN (n + 1) (.int k x) = true := rfl
theorem plain_bool {n : Nat} {b : Bool} : plainN (n + 1) (.bool b) = true := rfl
theorem plain_string {n : Nat} {s : ByteArray} : plainN (n + 1) (.string s) = true := rfl
theorem plain_float {n : Nat} {k : FloatKind} {b : Nat} : plainN (n + 1) (.float k b) = true := rfl
theorem plain_complex {n : Nat} {k : FloatKind} {a b : Nat} : plainN (n + 1) (.complex k a b) = true := rfl

/-! contracts of functions that leave the heap as it was -/

theorem Below.of_plain {n : Nat} : ∀ {d : Nat} {v : Value}, plainN d v = true → Below n v := by
  intro d
  induction d with
  | zero => intro v h; cases h
  | succ d ih =>
    intro v h
    cases v with
    | bool b => exact .bool b
    | int k n => exact .int k n
    | float k b => exact .float k b
    | complex k a b => exact .complex k a b
    | string s => exact .string s
    | pointer a => cases a with
      | none => exact .nilPtr
      | some a => cases h
    | slice a l c => cases a with
      | none => exact .nilSlice l c
      | some a => cases h
    | map r => cases r with
      | none => exact .nilMap
      | some a => cases h
    | chan r => cases r with
      | none => exact .nilChan
      | some a => cases h
    | func fn f c =>
      cases fn with
      | func fn =>
        simp only [plainN, Bool.and_eq_true, List.all_eq_true] at h
        exact .func fn (fun v hv => ih (h.1 v hv)) (fun v hv => ih (h.2 v hv))
      | _ => cases h
    | nilFunc => exact .nilFunc
    | iface t v => exact .iface t (ih h)
    | nilIface => exact .nilIface
    | agg c => simp only [plainN, List.all_eq_true] at h; exact .agg fun v hv => ih (h v hv)
    | tuple c => simp only [plainN, List.all_eq_true] at h; exact .tuple fun v hv => ih (h v hv)

theorem HC.pureF {P : Program} {f : FuncId} {args : Array Value} {h : AH} {Q : Res → AH → Prop}
    (hh : HC P f args h fun r h₁ => Kp h.size h h₁ ∧ r.Below h.size ∧ Q r h) : HC P f args h Q :=
  fun E w args' r ra => (hh E w args' r ra).mono fun e w' ⟨E', res, h₁, q1, q2, q3, e2, e4, hq⟩ => by
    obtain ⟨p1, p2⟩ := r.cut q2 q3 (h₂ := h) rfl fun k y hk => by
      obtain ⟨n, o', g1, _⟩ := r.live k y.1 y.2 hk
      have hlt := (r.dom k n g1).1
      exact ⟨hlt, by rw [e2.get k hlt]; exact hk, .inr hk⟩
    refine ⟨_, res, h, ?_, p1, p2, hq⟩
    cases res with
    | ret v =>
      cases e with
      | returned u => exact RV.cut q1 e4
      | _ => cases q1
    | pan v =>
      cases e with
      | panicked chain =>
        obtain ⟨u, hu, hv⟩ := q1
        exact ⟨u, hu, hv.cut e4⟩
      | _ => cases q1

/-- a function that gives a value back and leaves the heap as it was -/
theorem Ex.pureF {P : Program} {f : FuncId} {args : Array Value} {h : AH} {v : Value} (hb : Below h.size v) (hh : HC P f args h fun r h₁ => r = .ret v ∧ Kp h.size h h₁) : Ex P f args h v h :=
  HC.pureF (hh.mono fun r h₁ ⟨a, b⟩ => ⟨b, by rw [a]; exact hb, a, rfl⟩)

/-- a slice as a list: the empty one is nil -/
def slV : List Value → Value
  | [] => .slice none 0 0
  | l => VSl l

theorem lenL_slV {l : List Value} : lenL (slV l) = some (.int .i64 l.length) := by
  cases l with
  | nil => rfl
  | cons a l => exact lenL_vs
theorem slV_of {l : List Value} (h : l ≠ []) : slV l = VSl l := by
  cases l with
  | nil => exact absurd rfl h
  | cons a l => rfl
theorem Src.slV {h : AH} {z : Nat} {m : List Value} (hz : ∀ v ∈ m, v.cells.size = z) (hp : 0 < z) : Src h z (slV m) m := by
  cases m with
  | nil => exact Src.nil (n := 0)
  | cons a m => exact Src.vs hz hp

/-- a slice that stays as it is, and its elements -/
inductive Sl : Value → List Value → Prop
  | nil : Sl (.slice none 0 0) []
  | vs (l : List Value) : Sl (VSl l) l

theorem Sl.of (l : List Value) : Sl (slV l) l := by
  cases l with
  | nil => exact .nil
  | cons a l => exact .vs _
theorem Sl.len {v : Value} {l : List Value} (h : Sl v l) : lenL v = some (.int .i64 l.length) := by
  cases h with
  | nil => rfl
  | vs => exact lenL_vs
theorem Sl.ia {v : Value} {l : List Value} (h : Sl v l) (n : Nat) (k : IntKind) (i : Int) : Ab.ia n v (.int k i) = if 0 ≤ i then (l[i.toNat]?).bind (fun v => if v.cells.size = n then some (FPv v.cells) else none) else none := by
  cases h with
  | nil => simp [Ab.ia]
  | vs => exact ia_vs
theorem Sl.src {v : Value} {l : List Value} (s : Sl v l) (h : AH) {z : Nat} (hz : ∀ v ∈ l, v.cells.size = z) (hp : 0 < z) : Src h z v l := by
  cases s with
  | nil => exact Src.nil (n := 0)
  | vs => exact Src.vs hz hp

theorem drop_cons {α : Type} {l r : List α} {a : α} {i : Nat} (h : l.drop i = a :: r) : l[i]? = some a ∧ l.drop (i + 1) = r ∧ i < l.length := by
  have h1 : l[i]? = some a := by rw [← List.head?_drop, h]; rfl
  refine ⟨h1, ?_, (List.getElem?_eq_some_iff.1 h1).1⟩
  rw [← List.drop_drop, h]; rfl
theorem drop_nil {α : Type} {l : List α} {i : Nat} (h : l.drop i = []) : l.length ≤ i := by simpa using h

/-- a function that gives a new slice back and leaves the heap as it was -/
theorem Ex.own {P : Program} {f : FuncId} {args : Array Value} {h : AH} {e z : Nat} {l : List Value} (hz : 0 < z) (hl : ∀ v ∈ l, v.cells.size = z) (hb : ∀ v ∈ flatC l, Below h.size v)
    (hh : HC P f args h fun r h₁ => ∃ s, r = .ret s ∧ Hld e z h₁ h.size s l ∧ Kp h.size h h₁) : Ex P f args h (slV l) h := by
  refine HC.pureF (HC.ghRes (hh.mono fun r h₁ ⟨s, e1, o, fr⟩ => ?_))
  rcases o.freeze (P := P) hz hl with ⟨rfl, rfl⟩ | ⟨h₂, g, q1, q2⟩
  · exact ⟨_, _, h₁, e1, .refl P h₁ _, fr, .nilSlice 0 0, rfl, rfl⟩
  · cases l with
    | nil => cases o with
      | nil => exact ⟨_, _, h₁, e1, .refl P h₁ _, fr, .nilSlice 0 0, rfl, rfl⟩
      | row _ _ _ hp => exact absurd hp (by simp)
    | cons a l => exact ⟨_, _, h₂, e1, g, ⟨by rw [q2]; exact fr.size, fun k hk => by rw [q1 k hk]; exact fr.get k hk⟩, .vs fun v hv => hb v (by simpa using hv), rfl, rfl⟩

/-- nothing but the package-level variables and what stays as it is -/
def Ren.base (P : Program) (E : Ren) : Ren := ⟨fun k => if k < P.globals.size then some k else none, fun _ => none, E.fro⟩
theorem Ren.base_at {P : Program} {E : Ren} {k n : Nat} (hk : (E.base P).at_ k = some n) : k < P.globals.size ∧ n = k := by
  simp only [Ren.base] at hk
  split at hk
  · cases hk; exact ⟨by assumption, rfl⟩
  · cases hk
theorem RW.base {P : Program} {E : Ren} {h : AH} {w : World} (r : RW P E h w) : RW P (E.base P) (AH.bare P) w where
  glob g hg := by simp only [Ren.base]; rw [if_pos hg]
  dom k n hk := by obtain ⟨h1, rfl⟩ := Ren.base_at hk; exact ⟨h1, (r.dom _ _ (r.glob _ h1)).2⟩
  sdom k x hk := by cases hk
  live k o s hk := by simp [AH.bare, AH.get, T.get] at hk
  inj j k n _ _ gj _ := by simp [AH.bare, AH.get, T.get] at gj
  frz := r.frz
  icy k o s n hk := by simp [AH.bare, AH.get, T.get] at hk
  sep := ⟨fun _ _ => rfl, fun k n hk _ => (Ren.base_at hk).2.symm⟩

/-- what is so of a call where nothing but the package-level variables is there is so wherever nothing is known of these -/
theorem Ex.frame0 {P : Program} {f : FuncId} {args : Array Value} {h g : AH} {v : Value} {d : Nat} (hh : Ex P f args (AH.bare P) v g) (ha : args.toList.all (plainN d) = true) (hv : plainN d v = true)
    (hno : ∀ k, k < P.globals.size → h.get k = none) : Ex P f args h v h := by
  intro E w args' r ra
  have e : args' = args := by
    apply Array.ext ra.1.symm
    intro i h1 h2
    exact RV.eq_of_plain (List.all_eq_true.1 ha _ (Array.getElem_mem_toList _)) (ra.2 i _ _ (Array.getElem?_eq_getElem h2) (Array.getElem?_eq_getElem h1))
  subst e
  have raF : RA (E.base P) args' args' := RA.of_plain fun v hv => RV.of_plain (List.all_eq_true.1 ha v hv)
  refine (hh _ w args' r.base raF).mono fun e w' ⟨E', res, h', q1, q2, q3, e2, e3⟩ => ?_
  subst e2
  cases e with
  | returned u =>
    have hu : u = v := RV.eq_of_plain hv q1
    subst hu
    have fr : ∀ k n, k < h.size → E.at_ k = some n → (h.get k).isSome = true → w'.heap[n]? = w.heap[n]? := fun k n _ hk hs => by
      refine q3.frame n (r.dom k n hk).2 fun j hj => ?_
      obtain ⟨hlt, rfl⟩ := Ren.base_at hj
      have := r.sep.2 k n hk hlt
      rw [this, hno n hlt] at hs; cases hs
    refine ⟨E, .ret u, h, RV.of_plain hv, ⟨r.glob, fun k n hk => ⟨(r.dom k n hk).1, Nat.lt_of_lt_of_le (r.dom k n hk).2 q3.size⟩, r.sdom, fun k o s hk => ?_, r.inj, fun b c hb => ?_, r.icy, r.sep⟩,
      ⟨.refl E, fun k n hk => .inl ⟨k, hk⟩, q3.size, fun n hn hj => q3.frame n hn fun j hj' => ?_, q3.os, q3.output, q3.tape, q3.drawn, fun b hb => q3.ice b hb⟩, rfl, rfl⟩
    · obtain ⟨n, o', g1, g2, g3, g4⟩ := r.live k o s hk
      exact ⟨n, o', g1, by rw [fr k n (r.dom k n g1).1 g1 (by rw [hk]; rfl)]; exact g2, g3, g4⟩
    · obtain ⟨cw, e, fz, g1, g2, g3⟩ := r.frz b c hb
      exact ⟨cw, e, fz, by rw [q3.ice b (by show (E.fro b).isSome = true; rw [hb]; rfl)]; exact g1, g2, g3⟩
    · obtain ⟨hlt, rfl⟩ := Ren.base_at hj'
      exact hj _ (r.glob _ hlt)
  | _ => cases q1

end Go.Ab
