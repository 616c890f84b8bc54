/-
  ABSTRACT HEAPS: an evaluator of the program's code over a heap of one's own, and that what it says is so.
-/
import Derived.Calls
import Derived.Recover
import Derived.Laws.Sem
import Derived.ChangeKeysEq
import Derived.Laws.BytesString
import Derived.Lib.UnsafeStr
/- AbRel -/
namespace Go.Ab

/-- where the blocks of the abstract heap lie in a world; of a soft one (made by append) also how many elements its row has there and how many cells each of them has -/
structure Ren where
  at_ : Nat → Option Nat
  soft : Nat → Option (Nat × Nat)
  /-- rows of the world whose first cells stay as they are -/
  fro : Nat → Option (Array Value) := fun _ => none

/-- a slice whose elements stay as they are -/
def VSl (l : List Value) : Value := .func (.yield 0) #[] l.toArray
/-- an address at which these cells stay -/
def FPv (c : Array Value) : Value := .func (.yield 1) #[] c
/-- the cells of elements -/
def flatC (l : List Value) : List Value := l.flatMap fun v => v.cells.toList

/-- a temporary of which nothing is known -/
def unk : Value := .func (.yield 2) #[] #[]
/-- a temporary that is known, in a loop's record -/
def knw (v : Value) : Value := .tuple #[v]
def unknw : Value → Option Value
  | .tuple c => c[0]?
  | _ => none

inductive RV (E : Ren) : Value → Value → Prop
  | bool (b : Bool) : RV E (.bool b) (.bool b)
  | int (k : IntKind) (n : Int) : RV E (.int k n) (.int k n)
  | float (k : FloatKind) (b : Nat) : RV E (.float k b) (.float k b)
  | complex (k : FloatKind) (a b : Nat) : RV E (.complex k a b) (.complex k a b)
  | string (s : ByteArray) : RV E (.string s) (.string s)
  | nilPtr : RV E (.pointer none) (.pointer none)
  | ptr {b b' off : Nat} (h : E.at_ b = some b') : RV E (.pointer (some ⟨b, off, none⟩)) (.pointer (some ⟨b', off, none⟩))
  | nilSlice (l c : Nat) : RV E (.slice none l c) (.slice none l c)
  | slice {b b' off len cap : Nat} (h : E.at_ b = some b') (hs : E.soft b = none) :
      RV E (.slice (some ⟨b, off, none⟩) len cap) (.slice (some ⟨b', off, none⟩) len cap)
  | softSlice {b b' off len cap cap' C s i : Nat} (h : E.at_ b = some b') (hs : E.soft b = some (C, s)) (ho : off = i * s) (hc : i + cap' = C) (hle : cap ≤ cap') :
      RV E (.slice (some ⟨b, off, none⟩) len cap) (.slice (some ⟨b', off, none⟩) len cap')
  | stub {b off cap' : Nat} {a' : Addr} (hs : (E.soft b).isSome) : RV E (.slice (some ⟨b, off, none⟩) 0 0) (.slice (some a') 0 cap')
  | nilMap : RV E (.map none) (.map none)
  | map {r r' : Nat} (h : E.at_ r = some r') : RV E (.map (some r)) (.map (some r'))
  | nilChan : RV E (.chan none) (.chan none)
  | yld {k n : Nat} (h : E.at_ k = some n) : RV E (.chan (some k)) (.func (.yield n) #[] #[])
  | func (fn : FuncId) {f f' c c' : Array Value} (hf : f.size = f'.size) (hc : c.size = c'.size)
      (h1 : ∀ (i : Nat) v v', f[i]? = some v → f'[i]? = some v' → RV E v v') (h2 : ∀ (i : Nat) v v', c[i]? = some v → c'[i]? = some v' → RV E v v') :
      RV E (.func (.func fn) f c) (.func (.func fn) f' c')
  | meth (n : String) {f f' c c' : Array Value} (hf : f.size = f'.size) (hc : c.size = c'.size)
      (h1 : ∀ (i : Nat) v v', f[i]? = some v → f'[i]? = some v' → RV E v v') (h2 : ∀ (i : Nat) v v', c[i]? = some v → c'[i]? = some v' → RV E v v') :
      RV E (.func (.method n) f c) (.func (.method n) f' c')
  | vs {l : List Value} {b' off cap s : Nat} {c : Array Value} (hf : E.fro b' = some c) (hs : 0 < s) (hl : ∀ v ∈ l, v.cells.size = s) (hn : off + l.length * s ≤ c.size) (hc : l.length ≤ cap)
      (h : ∀ (i : Nat) v v', (flatC l)[i]? = some v → c[off + i]? = some v' → RV E v v') : RV E (VSl l) (.slice (some ⟨b', off, none⟩) l.length cap)
  | vs0 {a' : Addr} {cap' : Nat} : RV E (VSl []) (.slice (some a') 0 cap')
  | fp {d : Array Value} {b' off : Nat} {c : Array Value} (hf : E.fro b' = some c) (hn : off + d.size ≤ c.size)
      (h : ∀ (i : Nat) v v', d[i]? = some v → c[off + i]? = some v' → RV E v v') : RV E (FPv d) (.pointer (some ⟨b', off, none⟩))
  | nilFunc : RV E .nilFunc .nilFunc
  | iface (t : TypeId) {v v' : Value} (h : RV E v v') : RV E (.iface t v) (.iface t v')
  | nilIface : RV E .nilIface .nilIface
  | agg {c c' : Array Value} (hn : c.size = c'.size) (h : ∀ (i : Nat) v v', c[i]? = some v → c'[i]? = some v' → RV E v v') : RV E (.agg c) (.agg c')
  | tuple {c c' : Array Value} (hn : c.size = c'.size) (h : ∀ (i : Nat) v v', c[i]? = some v → c'[i]? = some v' → RV E v v') : RV E (.tuple c) (.tuple c')

/-- two rows of values -/
def RA (E : Ren) (c c' : Array Value) : Prop := c.size = c'.size ∧ ∀ (i : Nat) v v', c[i]? = some v → c'[i]? = some v' → RV E v v'

structure Ren.Le (E E' : Ren) : Prop where
  at_ : ∀ k n, E.at_ k = some n → E'.at_ k = some n
  soft : ∀ k n, E.at_ k = some n → E'.soft k = E.soft k
  soft' : ∀ k x, E.soft k = some x → E'.soft k = some x
  fro : ∀ b c, E.fro b = some c → E'.fro b = some c

theorem Ren.Le.refl (E : Ren) : E.Le E := ⟨fun _ _ h => h, fun _ _ _ => rfl, fun _ _ h => h, fun _ _ h => h⟩
theorem Ren.Le.trans {E F G : Ren} (h : E.Le F) (h' : F.Le G) : E.Le G :=
  ⟨fun k n e => h'.at_ k n (h.at_ k n e), fun k n e => (h'.soft k n (h.at_ k n e)).trans (h.soft k n e), fun k x e => h'.soft' k x (h.soft' k x e), fun b c e => h'.fro b c (h.fro b c e)⟩

theorem RV.mono {E E' : Ren} (le : E.Le E') {v v' : Value} (h : RV E v v') : RV E' v v' := by
  induction h with
  | bool b => exact .bool b
  | int k n => exact .int k n
  | float k b => exact .float k b
  | complex k a b => exact .complex k a b
  | string s => exact .string s
  | nilPtr => exact .nilPtr
  | ptr h => exact .ptr (le.at_ _ _ h)
  | nilSlice l c => exact .nilSlice l c
  | slice h hs => exact .slice (le.at_ _ _ h) ((le.soft _ _ h).trans hs)
  | softSlice h hs ho hc hle => exact .softSlice (le.at_ _ _ h) (le.soft' _ _ hs) ho hc hle
  | stub hs =>
    refine .stub ?_
    obtain ⟨x, hx⟩ := Option.isSome_iff_exists.1 hs
    rw [le.soft' _ _ hx]; rfl
  | nilMap => exact .nilMap
  | map h => exact .map (le.at_ _ _ h)
  | nilChan => exact .nilChan
  | yld h => exact .yld (le.at_ _ _ h)
  | func fn hf hc _ _ i1 i2 => exact .func fn hf hc i1 i2
  | meth n hf hc _ _ i1 i2 => exact .meth n hf hc i1 i2
  | vs hf hs hl hn hc _ ih => exact .vs (le.fro _ _ hf) hs hl hn hc ih
  | vs0 => exact .vs0
  | fp hf hn _ ih => exact .fp (le.fro _ _ hf) hn ih
  | nilFunc => exact .nilFunc
  | iface t _ ih => exact .iface t ih
  | nilIface => exact .nilIface
  | agg hn _ ih => exact .agg hn ih
  | tuple hn _ ih => exact .tuple hn ih

theorem RA.mono {E E' : Ren} (le : E.Le E') {c c' : Array Value} (h : RA E c c') : RA E' c c' := ⟨h.1, fun i v v' a b => (h.2 i v v' a b).mono le⟩

theorem RA.get {E : Ren} {c c' : Array Value} (h : RA E c c') {i : Nat} {v : Value} (hi : c[i]? = some v) : ∃ v', c'[i]? = some v' ∧ RV E v v' := by
  obtain ⟨hl, rfl⟩ := Array.getElem?_eq_some_iff.1 hi
  have hl' : i < c'.size := h.1 ▸ hl
  exact ⟨c'[i], Array.getElem?_eq_getElem hl', h.2 i _ _ hi (Array.getElem?_eq_getElem hl')⟩

theorem RA.get_none {E : Ren} {c c' : Array Value} (h : RA E c c') {i : Nat} (hi : c[i]? = none) : c'[i]? = none := by
  rw [Array.getElem?_eq_none_iff] at hi ⊢
  exact h.1 ▸ hi

theorem RA.empty {E : Ren} : RA E #[] #[] := ⟨rfl, fun i v v' h _ => by simp at h⟩

theorem RA.one {E : Ren} {v v' : Value} (h : RV E v v') : RA E #[v] #[v'] := by
  refine ⟨rfl, fun i a b ha hb => ?_⟩
  cases i with
  | zero => simp at ha hb; subst ha hb; exact h
  | succ n => simp at ha

theorem RA.push {E : Ren} {c c' : Array Value} {v v' : Value} (h : RA E c c') (hv : RV E v v') : RA E (c.push v) (c'.push v') := by
  refine ⟨by simp [h.1], fun i a b ha hb => ?_⟩
  rw [Array.getElem?_push] at ha hb
  rw [← h.1] at hb
  split at ha
  · rename_i e
    rw [if_pos e] at hb
    cases ha; cases hb; exact hv
  · rename_i e
    rw [if_neg e] at hb
    exact h.2 i a b ha hb

theorem RA.append {E : Ren} {c c' d d' : Array Value} (h : RA E c c') (h' : RA E d d') : RA E (c ++ d) (c' ++ d') := by
  refine ⟨by simp [h.1, h'.1], fun i a b ha hb => ?_⟩
  rw [Array.getElem?_append] at ha hb
  rw [← h.1] at hb
  split at ha
  · rename_i e
    rw [if_pos e] at hb
    exact h.2 i a b ha hb
  · rename_i e
    rw [if_neg e] at hb
    exact h'.2 _ a b ha hb

theorem RA.extract {E : Ren} {c c' : Array Value} (h : RA E c c') (i j : Nat) : RA E (c.extract i j) (c'.extract i j) := by
  refine ⟨by simp [h.1], fun k a b ha hb => ?_⟩
  rw [Array.getElem?_extract] at ha hb
  rw [← h.1] at hb
  split at ha
  · rename_i e
    rw [if_pos e] at hb
    exact h.2 _ a b ha hb
  · cases ha

theorem RA.set {E : Ren} {c c' : Array Value} {v v' : Value} (h : RA E c c') (i : Nat) (hv : RV E v v') : RA E (c.setIfInBounds i v) (c'.setIfInBounds i v') := by
  refine ⟨by simp [h.1], fun k a b ha hb => ?_⟩
  rw [Array.getElem?_setIfInBounds] at ha hb
  rw [← h.1] at hb
  split at ha
  · rename_i e
    rw [if_pos e] at hb
    split at ha
    · rename_i e'
      rw [if_pos e'] at hb
      cases ha; cases hb; exact hv
    · cases ha
  · rename_i e
    rw [if_neg e] at hb
    exact h.2 _ a b ha hb

/-- the same, or nothing is known -/
def RU (E : Ren) (v v' : Value) : Prop := v = unk ∨ RV E v (.tuple #[v'])
theorem RU.mono {E E' : Ren} (le : E.Le E') {v v' : Value} (h : RU E v v') : RU E' v v' := h.imp id fun h => h.mono le

theorem RV.ra {E : Ren} {v v' : Value} (h : RV E v v') : RA E v.cells v'.cells := by
  cases h with
  | agg hn h => exact ⟨hn, h⟩
  | bool b => exact .one (.bool b)
  | int k n => exact .one (.int k n)
  | float k b => exact .one (.float k b)
  | complex k a b => exact .one (.complex k a b)
  | string s => exact .one (.string s)
  | nilPtr => exact .one .nilPtr
  | ptr h => exact .one (.ptr h)
  | nilSlice l c => exact .one (.nilSlice l c)
  | slice h hs => exact .one (.slice h hs)
  | softSlice h hs ho hc hle => exact .one (.softSlice h hs ho hc hle)
  | stub hs => exact .one (.stub hs)
  | nilMap => exact .one .nilMap
  | map h => exact .one (.map h)
  | nilChan => exact .one .nilChan
  | yld h => exact .one (.yld h)
  | func fn hf hc i1 i2 => exact .one (.func fn hf hc i1 i2)
  | meth n hf hc i1 i2 => exact .one (.meth n hf hc i1 i2)
  | vs hf hs hl hn hc h => exact .one (.vs hf hs hl hn hc h)
  | vs0 => exact .one .vs0
  | fp hf hn h => exact .one (.fp hf hn h)
  | nilFunc => exact .one .nilFunc
  | iface t h => exact .one (.iface t h)
  | nilIface => exact .one .nilIface
  | tuple hn h => exact .one (.tuple hn h)

/-- no block is named in it (to the depth n) -/
def plainN : Nat → Value → Bool
  | 0, _ => false
  | n + 1, v => match v with
    | .pointer (some _) | .slice (some _) _ _ | .map (some _) | .chan (some _) => false
    | .agg c | .tuple c => c.toList.all (plainN n)
    | .func (.func _) f c => f.toList.all (plainN n) && c.toList.all (plainN n)
    | .func _ _ _ => false
    | .iface _ v => plainN n v
    | _ => true
abbrev plain (v : Value) : Bool := plainN 12 v

theorem RV.of_plain {E : Ren} : ∀ {n : Nat} {v : Value}, plainN n v = true → RV E v v := by
  intro n
  induction n with
  | zero => intro v h; cases h
  | succ n ih =>
    intro v h
    have hA : ∀ c : Array Value, c.toList.all (plainN n) = true → ∀ (i : Nat) v v', c[i]? = some v → c[i]? = some v' → RV E v v' := by
      intro c hc i v v' h1 h2
      rw [h1] at h2
      cases h2
      exact ih (List.all_eq_true.1 hc v (by rw [← Array.getElem?_toList] at h1; exact List.mem_of_getElem? h1))
    cases v with
    | bool b => exact .bool b
    | int k n => exact .int k n
    | float k b => exact .float k b
    | complex k a b => exact .complex k a b
    | string s => exact .string s
    | pointer a => cases a with
      | none => exact .nilPtr
      | some a => cases h
    | slice a l c => cases a with
      | none => exact .nilSlice l c
      | some a => cases h
    | map r => cases r with
      | none => exact .nilMap
      | some a => cases h
    | chan r => cases r with
      | none => exact .nilChan
      | some a => cases h
    | func fn f c =>
      cases fn with
      | func fn =>
        simp only [plainN, Bool.and_eq_true] at h
        exact .func fn rfl rfl (hA f h.1) (hA c h.2)
      | _ => cases h
    | nilFunc => exact .nilFunc
    | iface t v => exact .iface t (ih h)
    | nilIface => exact .nilIface
    | agg c => exact .agg rfl (hA c h)
    | tuple c => exact .tuple rfl (hA c h)

/-- what is plain lies the same everywhere -/
theorem RV.eq_of_plain {E : Ren} : ∀ {n : Nat} {v v' : Value}, plainN n v = true → RV E v v' → v' = v := by
  intro n
  induction n with
  | zero => intro v v' h; cases h
  | succ n ih =>
    intro v v' h hr
    have hA : ∀ c c' : Array Value, c.toList.all (plainN n) = true → c.size = c'.size → (∀ (i : Nat) v v', c[i]? = some v → c'[i]? = some v' → RV E v v') → c' = c := by
      intro c c' hc hs hh
      refine Array.ext hs.symm fun i h1 h2 => ?_
      have hi : c[i]? = some c[i] := Array.getElem?_eq_getElem h2
      exact ih (List.all_eq_true.1 hc _ (by simp)) (hh i _ _ hi (Array.getElem?_eq_getElem h1))
    cases hr with
    | bool | int | float | complex | string | nilPtr | nilSlice | nilMap | nilChan | nilFunc | nilIface => rfl
    | ptr _ | yld _ | meth _ _ _ _ _ | slice _ _ | softSlice _ _ _ _ _ | stub _ | map _ | vs _ _ _ _ _ _ | vs0 | fp _ _ _ => cases h
    | func fn hf hc h1 h2 =>
      simp only [plainN, Bool.and_eq_true] at h
      rw [hA _ _ h.1 hf h1, hA _ _ h.2 hc h2]
    | iface t h' => rw [ih h h']
    | agg hn h' => rw [hA _ _ h hn h']
    | tuple hn h' => rw [hA _ _ h hn h']

end Go.Ab

/- AbHeap -/
namespace Go.Ab
set_option linter.unusedVariables false

inductive T (α : Type) where
  | leaf
  | node (v : Option α) (l r : T α)

def T.get {α : Type} : T α → Nat → Option α
  | .leaf, _ => none
  | .node v l r, p => if p ≤ 1 then v else if p % 2 = 0 then l.get (p / 2) else r.get (p / 2)

def T.put {α : Type} : Nat → T α → Nat → Option α → T α
  | 0, t, _, _ => t
  | n + 1, .leaf, p, v => if p ≤ 1 then .node v .leaf .leaf else if p % 2 = 0 then .node none (put n .leaf (p / 2) v) .leaf else .node none .leaf (put n .leaf (p / 2) v)
  | n + 1, .node u l r, p, v => if p ≤ 1 then .node v l r else if p % 2 = 0 then .node u (put n l (p / 2) v) r else .node u l (put n r (p / 2) v)

theorem T.get_node {α : Type} (v : Option α) (l r : T α) (p : Nat) : (T.node v l r).get p = if p ≤ 1 then v else if p % 2 = 0 then l.get (p / 2) else r.get (p / 2) := rfl

theorem T.get_put {α : Type} : ∀ (n : Nat) (t : T α) (p q : Nat) (v : Option α), 1 ≤ p → p ≤ n → 1 ≤ q → (T.put n t p v).get q = if q = p then v else t.get q := by
  intro n
  induction n with
  | zero => intro t p q v h1 h2; omega
  | succ n ih =>
    intro t p q v h1 h2 h3
    have key : ∀ l : T α, 1 < p → 1 < q → (T.put n l (p / 2) v).get (q / 2) = if q / 2 = p / 2 then v else l.get (q / 2) := fun l a b => ih l (p / 2) (q / 2) v (by omega) (by omega) (by omega)
    cases t with
    | leaf =>
      rw [T.put]
      by_cases hp : p ≤ 1
      · rw [if_pos hp, T.get_node]
        by_cases hq : q ≤ 1
        · rw [if_pos hq, if_pos (by omega)]
        · have hne : q ≠ p := by omega
          simp [hne, hq, T.get]
      · rw [if_neg hp]
        by_cases he : p % 2 = 0
        · rw [if_pos he, T.get_node]
          by_cases hq : q ≤ 1
          · rw [if_pos hq, if_neg (by omega)]; rfl
          · rw [if_neg hq]
            by_cases hqe : q % 2 = 0
            · rw [if_pos hqe, key _ (by omega) (by omega)]
              by_cases hpq : q = p
              · rw [if_pos (by omega), if_pos hpq]
              · rw [if_neg (by omega), if_neg hpq]; rfl
            · rw [if_neg hqe, if_neg (by omega)]; rfl
        · rw [if_neg he, T.get_node]
          by_cases hq : q ≤ 1
          · rw [if_pos hq, if_neg (by omega)]; rfl
          · rw [if_neg hq]
            by_cases hqe : q % 2 = 0
            · rw [if_pos hqe, if_neg (by omega)]; rfl
            · rw [if_neg hqe, key _ (by omega) (by omega)]
              by_cases hpq : q = p
              · rw [if_pos (by omega), if_pos hpq]
              · rw [if_neg (by omega), if_neg hpq]; rfl
    | node u l r =>
      rw [T.put]
      by_cases hp : p ≤ 1
      · rw [if_pos hp, T.get_node, T.get_node]
        by_cases hq : q ≤ 1
        · rw [if_pos hq, if_pos (by omega)]
        · have hne : q ≠ p := by omega
          simp [hne, hq]
      · rw [if_neg hp]
        by_cases he : p % 2 = 0
        · rw [if_pos he, T.get_node, T.get_node]
          by_cases hq : q ≤ 1
          · rw [if_pos hq, if_pos hq, if_neg (by omega)]
          · rw [if_neg hq, if_neg hq]
            by_cases hqe : q % 2 = 0
            · rw [if_pos hqe, if_pos hqe, key _ (by omega) (by omega)]
              by_cases hpq : q = p
              · rw [if_pos (by omega), if_pos hpq]
              · rw [if_neg (by omega), if_neg hpq]
            · rw [if_neg hqe, if_neg hqe, if_neg (by omega)]
        · rw [if_neg he, T.get_node, T.get_node]
          by_cases hq : q ≤ 1
          · rw [if_pos hq, if_pos hq, if_neg (by omega)]
          · rw [if_neg hq, if_neg hq]
            by_cases hqe : q % 2 = 0
            · rw [if_pos hqe, if_pos hqe, if_neg (by omega)]
            · rw [if_neg hqe, if_neg hqe, key _ (by omega) (by omega)]
              by_cases hpq : q = p
              · rw [if_pos (by omega), if_pos hpq]
              · rw [if_neg (by omega), if_neg hpq]

structure AH where
  tree : T (Obj × Option Nat)
  size : Nat
  /-- the keys that were put since the function began -/
  log : List Nat := []

def AH.get (h : AH) (k : Nat) : Option (Obj × Option Nat) := h.tree.get (k + 1)
def AH.put (h : AH) (k : Nat) (v : Option (Obj × Option Nat)) : AH := ⟨h.tree.put (k + 1) (k + 1) v, h.size, k :: h.log⟩
def AH.push (h : AH) (o : Obj) (soft : Option Nat) : AH := ⟨h.tree.put (h.size + 1) (h.size + 1) (some (o, soft)), h.size + 1, h.log⟩

theorem AH.get_put (h : AH) (k j : Nat) (v : Option (Obj × Option Nat)) : (h.put k v).get j = if j = k then v else h.get j := by
  unfold AH.get AH.put
  rw [T.get_put _ _ _ _ _ (by omega) (Nat.le_refl _) (by omega)]
  by_cases e : j = k
  · rw [if_pos (by omega), if_pos e]
  · rw [if_neg (by omega), if_neg e]

theorem AH.get_push (h : AH) (o : Obj) (s : Option Nat) (j : Nat) : (h.push o s).get j = if j = h.size then some (o, s) else h.get j := by
  unfold AH.get AH.push
  rw [T.get_put _ _ _ _ _ (by omega) (Nat.le_refl _) (by omega)]
  by_cases e : j = h.size
  · rw [if_pos (by omega), if_pos e]
  · rw [if_neg (by omega), if_neg e]

@[simp] theorem AH.size_put (h : AH) (k : Nat) (v : Option (Obj × Option Nat)) : (h.put k v).size = h.size := rfl
@[simp] theorem AH.size_push (h : AH) (o : Obj) (s : Option Nat) : (h.push o s).size = h.size + 1 := rfl

/-- an object of the abstract heap and one of a world -/
inductive RO (E : Ren) (s : Option (Nat × Nat)) : Obj → Obj → Prop
  | hard {c c' : Array Value} {e : TypeId} (hs : s = none) (h : RA E c c') : RO E s (.cells c e (0, 0)) (.cells c' e (0, 0))
  | soft {c c' : Array Value} {e : TypeId} {C z lo hi : Nat} (hs : s = some (C, z)) (hz : 0 < z) (hn : c'.size = C * z) (hle : c.size ≤ c'.size)
      (hf : c'.size ≤ lo ∨ hi ≤ lo)
      (h : ∀ (i : Nat) v v', c[i]? = some v → c'[i]? = some v' → RV E v v') : RO E s (.cells c e (0, 0)) (.cells c' e (lo, hi))
  | ice {c c' : Array Value} {e : TypeId} {fz : Nat × Nat} (hle : c.size ≤ c'.size)
      (h : ∀ (i : Nat) v v', c[i]? = some v → c'[i]? = some v' → RV E v v') : RO E s (.cells c e (0, 1)) (.cells c' e fz)
  | map {es es' : Array MapEntry} (t : Nat) (hn : es.size = es'.size)
      (h : ∀ (i : Nat) x y, es[i]? = some x → es'[i]? = some y → RV E x.key y.key ∧ RV E x.val y.val ∧ x.born = y.born) : RO E s (.map es t) (.map es' t)
  | stringIter (b : ByteArray) (p : Nat) : RO E s (.stringIter b p) (.stringIter b p)
  | mapIter {m m' : Nat} (h : E.at_ m = some m') (a : Nat) (l : Array Nat) (b : Nat) : RO E s (.mapIter (some m) a l b) (.mapIter (some m') a l b)
  | mapIter0 (a : Nat) (l : Array Nat) (b : Nat) : RO E s (.mapIter none a l b) (.mapIter none a l b)
  | loop {r r' : Loop} (h1 : r'.state = r.state) (h2 : r'.pending = r.pending) (h3 : r'.params = r.params) (h4 : r'.assign = r.assign) (h5 : r'.body = r.body) (hn : r.tmps.size = r'.tmps.size)
      (h : ∀ (i : Nat) v v', r.tmps[i]? = some v → r'.tmps[i]? = some v' → RU E v v') : RO E s (.loop r) (.loop r')

theorem RO.mono {E E' : Ren} (le : E.Le E') {s : Option (Nat × Nat)} {o o' : Obj} (h : RO E s o o') : RO E' s o o' := by
  cases h with
  | hard hs h => exact .hard hs (h.mono le)
  | soft hs hz hn hle hf h => exact .soft hs hz hn hle hf fun i v v' a b => (h i v v' a b).mono le
  | ice hle h => exact .ice hle fun i v v' a b => (h i v v' a b).mono le
  | map t hn h => exact .map t hn fun i x y a b => ⟨(h i x y a b).1.mono le, (h i x y a b).2.1.mono le, (h i x y a b).2.2⟩
  | stringIter b p => exact .stringIter b p
  | mapIter h a l b => exact .mapIter (le.at_ _ _ h) a l b
  | mapIter0 a l b => exact .mapIter0 a l b
  | loop h1 h2 h3 h4 h5 hn h => exact .loop h1 h2 h3 h4 h5 hn fun i v v' a b => (h i v v' a b).mono le

/-- a row that stays as it is -/
def iced : Obj → Bool
  | .cells _ _ fz => fz != (0, 0)
  | _ => false

/-- the abstract heap lies in the world -/
structure RW (P : Program) (E : Ren) (h : AH) (w : World) : Prop where
  glob : ∀ g, g < P.globals.size → E.at_ g = some g
  dom : ∀ k n, E.at_ k = some n → k < h.size ∧ n < w.heap.size
  sdom : ∀ k x, E.soft k = some x → ∃ n, E.at_ k = some n
  live : ∀ k o s, h.get k = some (o, s) → ∃ n o', E.at_ k = some n ∧ w.heap[n]? = some o' ∧ RO E (E.soft k) o o' ∧ s = (E.soft k).map (·.2)
  inj : ∀ j k n, E.at_ j = some n → E.at_ k = some n → (h.get j).isSome → (h.get k).isSome → j = k
  frz : ∀ b c, E.fro b = some c → ∃ cw e fz, w.heap[b]? = some (.cells cw e fz) ∧ c.size ≤ cw.size ∧ ∀ i, i < c.size → cw[i]? = c[i]?
  icy : ∀ k o s n, h.get k = some (o, s) → E.at_ k = some n → (E.fro n).isSome = true → iced o = true
  /-- package-level variables don't grow, and nothing else lies where they lie -/
  sep : (∀ g, g < P.globals.size → E.soft g = none) ∧ ∀ k n, E.at_ k = some n → n < P.globals.size → k = n

theorem RW.frzLt {P : Program} {E : Ren} {h : AH} {w : World} (r : RW P E h w) {b : Nat} {c : Array Value} (hb : E.fro b = some c) : b < w.heap.size := by
  obtain ⟨_, _, _, h1, _⟩ := r.frz b c hb
  exact (Array.getElem?_eq_some_iff.1 h1).1

theorem RW.unfro {P : Program} {E : Ren} {h : AH} {w : World} (r : RW P E h w) {k n : Nat} {o : Obj} {s : Option Nat} (hk : h.get k = some (o, s)) (hat : E.at_ k = some n) (hi : iced o = false) : E.fro n = none := by
  cases hf : E.fro n with
  | none => rfl
  | some c =>
    have := r.icy k o s n hk hat (by rw [hf]; rfl)
    rw [hi] at this; cases this

/-- what a run may have done to a world in which an abstract heap lay -/
structure Ext (E : Ren) (w : World) (E' : Ren) (w' : World) : Prop where
  le : E.Le E'
  range : ∀ k n, E'.at_ k = some n → (∃ j, E.at_ j = some n) ∨ w.heap.size ≤ n
  size : w.heap.size ≤ w'.heap.size
  frame : ∀ n, n < w.heap.size → (∀ j, E.at_ j ≠ some n) → w'.heap[n]? = w.heap[n]?
  os : w'.os = w.os
  output : w'.output = w.output
  tape : w'.tape = w.tape
  drawn : w.drawn ≤ w'.drawn
  ice : ∀ b, (E.fro b).isSome = true → w'.heap[b]? = w.heap[b]?

theorem Ext.refl (E : Ren) (w : World) : Ext E w E w := ⟨.refl E, fun k n h => .inl ⟨k, h⟩, Nat.le_refl _, fun _ _ _ => rfl, rfl, rfl, rfl, Nat.le_refl _, fun _ _ => rfl⟩

theorem Ext.trans {E F G : Ren} {u v w : World} (a : Ext E u F v) (b : Ext F v G w) : Ext E u G w where
  le := a.le.trans b.le
  range k n h := by
    rcases b.range k n h with ⟨j, hj⟩ | hj
    · exact a.range j n hj
    · exact .inr (Nat.le_trans a.size hj)
  size := Nat.le_trans a.size b.size
  frame n hn hj := by
    have : ∀ j, F.at_ j ≠ some n := fun j h => by
      rcases a.range j n h with ⟨i, hi⟩ | hi
      · exact hj i hi
      · omega
    rw [b.frame n (Nat.lt_of_lt_of_le hn a.size) this, a.frame n hn hj]
  os := b.os.trans a.os
  output := b.output.trans a.output
  tape := b.tape.trans a.tape
  drawn := Nat.le_trans a.drawn b.drawn
  ice n hn := by
    obtain ⟨c, hc⟩ := Option.isSome_iff_exists.1 hn
    rw [b.ice n (by rw [a.le.fro n c hc]; rfl), a.ice n hn]

/-- one object is put in place of another -/
theorem RW.put {P : Program} {E : Ren} {h : AH} {w : World} (r : RW P E h w) {b b' : Nat} {o₀ o o' : Obj} {s : Option Nat} (hb : h.get b = some (o₀, s)) (hi : iced o₀ = false)
    (hat : E.at_ b = some b') (ho : RO E (E.soft b) o o') :
    RW P E (h.put b (some (o, s))) { w with heap := w.heap.setIfInBounds b' o' } ∧ Ext E w E { w with heap := w.heap.setIfInBounds b' o' } := by
  obtain ⟨n, o1, h1, h2, h3, h4⟩ := r.live b o₀ s hb
  rw [hat] at h1; cases h1
  have hlt : b' < w.heap.size := (r.dom b b' hat).2
  have hnf := r.unfro hb hat hi
  refine ⟨⟨r.glob, fun k n hk => ?_, r.sdom, fun k x t hk => ?_, fun j k n hj hk gj gk => ?_, fun n c hn => ?_, fun k x t n hk hn hf => ?_, r.sep⟩, ⟨.refl E, fun k n hk => .inl ⟨k, hk⟩, by simp, fun n hn hj => ?_, rfl, rfl, rfl, Nat.le_refl _, fun n hn => ?_⟩⟩
  · simpa using r.dom k n hk
  · rw [AH.get_put] at hk
    split at hk
    · rename_i e; subst e; cases hk
      exact ⟨b', o', hat, by simp [hlt], ho, h4⟩
    · rename_i e
      obtain ⟨n, o2, g1, g2, g3, g4⟩ := r.live k x t hk
      have : n ≠ b' := fun he => e (r.inj k b n g1 (he ▸ hat) (by rw [hk]; rfl) (by rw [hb]; rfl))
      exact ⟨n, o2, g1, by simp only [Array.getElem?_setIfInBounds]; rw [if_neg (fun e => this e.symm)]; exact g2, g3, g4⟩
  · refine r.inj j k n hj hk ?_ ?_
    · rw [AH.get_put] at gj
      split at gj
      · rename_i e; rw [e, hb]; rfl
      · exact gj
    · rw [AH.get_put] at gk
      split at gk
      · rename_i e; rw [e, hb]; rfl
      · exact gk
  · obtain ⟨cw, e, fz, g1, g2, g3⟩ := r.frz n c hn
    refine ⟨cw, e, fz, ?_, g2, g3⟩
    have : b' ≠ n := by rintro rfl; rw [hnf] at hn; cases hn
    simp only [Array.getElem?_setIfInBounds]
    rw [if_neg this]; exact g1
  · rw [AH.get_put] at hk
    split at hk
    · rename_i e; subst e
      rw [hat] at hn; cases hn
      rw [hnf] at hf; cases hf
    · exact r.icy k x t n hk hn hf
  · have : b' ≠ n := fun e => hj b (e ▸ hat)
    simp only [Array.getElem?_setIfInBounds]
    rw [if_neg this]
  · have : b' ≠ n := by rintro rfl; rw [hnf] at hn; cases hn
    simp only [Array.getElem?_setIfInBounds]
    rw [if_neg this]

/-- where a new block is put -/
def Ren.add (E : Ren) (k n : Nat) (s : Option (Nat × Nat)) : Ren :=
  { at_ := fun j => if j = k then some n else E.at_ j, soft := fun j => if j = k then s else E.soft j, fro := E.fro }

theorem Ren.le_add {P : Program} {E : Ren} {h : AH} {w : World} (r : RW P E h w) (n : Nat) (s : Option (Nat × Nat)) : E.Le (E.add h.size n s) where
  at_ k m hk := by
    have := (r.dom k m hk).1
    simp only [Ren.add]; rw [if_neg (by omega)]; exact hk
  soft k m hk := by
    have := (r.dom k m hk).1
    simp only [Ren.add]; rw [if_neg (by omega)]
  soft' k x hk := by
    obtain ⟨m, hm⟩ := r.sdom k x hk
    have := (r.dom k m hm).1
    simp only [Ren.add]; rw [if_neg (by omega)]; exact hk
  fro _ _ h := h

theorem RW.sep_add {P : Program} {E : Ren} {h : AH} {w : World} (r : RW P E h w) {b : Nat} {s : Option (Nat × Nat)} (hb : ∀ g, g < P.globals.size → g < b) :
    (∀ g, g < P.globals.size → (E.add h.size b s).soft g = none) ∧ ∀ k n, (E.add h.size b s).at_ k = some n → n < P.globals.size → k = n := by
  refine ⟨fun g hg => ?_, fun k n hk hn => ?_⟩
  · have := (r.dom g g (r.glob g hg)).1
    simp only [Ren.add]; rw [if_neg (by omega)]; exact r.sep.1 g hg
  · simp only [Ren.add] at hk
    split at hk
    · cases hk; have := hb _ hn; omega
    · exact r.sep.2 k n hk hn

/-- a new block -/
theorem RW.push {P : Program} {E : Ren} {h : AH} {w : World} (r : RW P E h w) {o o' : Obj} (s : Option (Nat × Nat)) (ho : RO (E.add h.size w.heap.size s) s o o') :
    RW P (E.add h.size w.heap.size s) (h.push o (s.map (·.2))) { w with heap := w.heap.push o' } ∧ Ext E w (E.add h.size w.heap.size s) { w with heap := w.heap.push o' } := by
  have le := Ren.le_add r w.heap.size s
  refine ⟨⟨fun g hg => le.at_ g g (r.glob g hg), fun k n hk => ?_, fun k x hk => ?_, fun k x t hk => ?_, fun j k n hj hk gj gk => ?_, fun n c hn => ?_, fun k x t n hk hn hf => ?_, RW.sep_add r fun g hg => ?_⟩, ⟨le, fun k n hk => ?_, by simp, fun n hn hj => ?_, rfl, rfl, rfl, Nat.le_refl _, fun n hn => ?_⟩⟩
  · simp only [Ren.add] at hk
    split at hk
    · cases hk; subst_vars; simp
    · have := r.dom k n hk; simp; omega
  · by_cases e : k = h.size
    · exact ⟨w.heap.size, by simp [Ren.add, e]⟩
    · have hk' : E.soft k = some x := by simpa [Ren.add, e] using hk
      obtain ⟨n, hn⟩ := r.sdom k x hk'
      exact ⟨n, by simpa [Ren.add, e] using hn⟩
  · rw [AH.get_push] at hk
    split at hk
    · rename_i e; subst e; cases hk
      exact ⟨w.heap.size, o', by simp [Ren.add], by simp, by simpa [Ren.add] using ho, by simp [Ren.add]⟩
    · rename_i e
      obtain ⟨n, o2, g1, g2, g3, g4⟩ := r.live k x t hk
      have hn := (r.dom k n g1).2
      have hs : (E.add h.size w.heap.size s).soft k = E.soft k := le.soft k n g1
      refine ⟨n, o2, le.at_ k n g1, ?_, hs ▸ g3.mono le, hs ▸ g4⟩
      show (w.heap.push o')[n]? = _
      rw [Array.getElem?_push, if_neg (by omega)]; exact g2
  · have hd : ∀ (i : Nat), (E.add h.size w.heap.size s).at_ i = some n → (i = h.size ∧ n = w.heap.size) ∨ (E.at_ i = some n ∧ n < w.heap.size ∧ i < h.size) := by
      intro i hi
      simp only [Ren.add] at hi
      split at hi
      · cases hi; exact .inl ⟨by assumption, rfl⟩
      · exact .inr ⟨hi, (r.dom i n hi).2, (r.dom i n hi).1⟩
    rcases hd j hj with ⟨a1, a2⟩ | ⟨a1, a2, a3⟩ <;> rcases hd k hk with ⟨b1, b2⟩ | ⟨b1, b2, b3⟩
    · omega
    · omega
    · omega
    · rw [AH.get_push, if_neg (by omega)] at gj gk
      exact r.inj j k n a1 b1 gj gk
  · obtain ⟨cw, e, fz, g1, g2, g3⟩ := r.frz n c hn
    have hlt := r.frzLt hn
    refine ⟨cw, e, fz, ?_, g2, g3⟩
    show (w.heap.push o')[n]? = _
    rw [Array.getElem?_push, if_neg (by omega)]; exact g1
  · obtain ⟨c, hc⟩ := Option.isSome_iff_exists.1 hf
    have hlt := r.frzLt hc
    simp only [Ren.add] at hn
    split at hn
    · cases hn; omega
    · rename_i e
      rw [AH.get_push, if_neg e] at hk
      exact r.icy k x t n hk hn hf
  · exact (r.dom g g (r.glob g hg)).2
  · simp only [Ren.add] at hk
    split at hk
    · cases hk; exact .inr (Nat.le_refl _)
    · exact .inl ⟨k, hk⟩
  · show (w.heap.push o')[n]? = _
    rw [Array.getElem?_push, if_neg (by omega)]
  · obtain ⟨c, hc⟩ := Option.isSome_iff_exists.1 hn
    have hlt := r.frzLt hc
    show (w.heap.push o')[n]? = _
    rw [Array.getElem?_push, if_neg (by omega)]

/-- some blocks are given up -/
theorem RW.less {P : Program} {E : Ren} {h h' : AH} {w : World} (r : RW P E h w) (hs : h.size ≤ h'.size) (hg : ∀ k x, h'.get k = some x → h.get k = some x) : RW P E h' w where
  glob := r.glob
  dom k n hk := by have := r.dom k n hk; omega
  sdom := r.sdom
  live k o s hk := r.live k o s (hg k _ hk)
  inj j k n hj hk gj gk := by
    obtain ⟨x, hx⟩ := Option.isSome_iff_exists.1 gj
    obtain ⟨y, hy⟩ := Option.isSome_iff_exists.1 gk
    exact r.inj j k n hj hk (by rw [hg j x hx]; rfl) (by rw [hg k y hy]; rfl)
  frz := r.frz
  icy k o s n hk hn hf := r.icy k o s n (hg k _ hk) hn hf
  sep := r.sep

theorem RW.drop {P : Program} {E : Ren} {h : AH} {w : World} (r : RW P E h w) (b : Nat) : RW P E (h.put b none) w :=
  r.less (Nat.le_refl _) fun k x hk => by
    rw [AH.get_put] at hk
    split at hk
    · cases hk
    · exact hk

end Go.Ab

/- AbOp -/
namespace Go.Ab
set_option linter.unusedVariables false
set_option linter.unusedSimpArgs false

section flat
/-- runs what asks neither the heap nor the tape -/
def flat (P : Program) {α : Type} : Sem α → Option α
  | .pure x => some x
  | .program k => flat P (k P)
  | .mark _ k => flat P k
  | _ => none

theorem flat_run {P : Program} {α : Type} {m : Sem α} : ∀ {x : α} (w : World), flat P m = some x → m.run P w = .ok x w := by
  induction m with
  | pure a => intro x w h; cases h; rfl
  | program k ih => intro x w h; exact ih P w h
  | mark m k ih => intro x w h; exact ih w h
  | _ => intro x w h; cases h
end flat

/-- struct or array -/
def agg? (P : Program) (t : TypeId) : Option Bool :=
  match P.underlying t with
  | some (.struct _) | some (.array _ _) => some true
  | some _ => some false
  | none => none

theorem und_run {P : Program} {t : TypeId} {d : TypeDesc} (h : P.underlying t = some d) (w : World) : (underlying t).run P w = .ok d w := by
  simp [underlying, h]

theorem agg_run {P : Program} {t : TypeId} {b : Bool} (h : agg? P t = some b) (w : World) : (isAgg t).run P w = .ok b w := by
  unfold agg? at h
  unfold isAgg
  split at h
  · rename_i e; cases h; simp [und_run e]
  · rename_i e; cases h; simp [und_run e]
  · rename_i d h1 h2 e
    cases h
    simp only [Sem.run_bind, und_run e, Result.andThen_ok]
    cases d <;> first | rfl | (exact absurd e (h1 _)) | (exact absurd e (h2 _ _))
  · cases h

theorem siz_run {P : Program} {t : TypeId} {i : TypeInfo} (h : P.info? t = some i) (w : World) : (sizeOf t).run P w = .ok i.size w := by
  simp [sizeOf, typeInfo, h]

theorem info_run {P : Program} {t : TypeId} {i : TypeInfo} (h : P.info? t = some i) (w : World) : (typeInfo t).run P w = .ok i w := by
  simp [typeInfo, h]

theorem zero_run {P : Program} {t : TypeId} {i : TypeInfo} {z : Value} (h : P.info? t = some i) (hz : i.zero = some z) (w : World) : (zeroValue t).run P w = .ok z w := by
  simp [zeroValue, typeInfo, h, hz]

/-- the value of a part of a row -/
def opPart (P : Program) (t : TypeId) (cs : Array Value) (off : Nat) : Option Value :=
  match agg? P t with
  | some true => match P.info? t with
    | some i => some (.agg (cs.extract off (off + i.size)))
    | none => none
  | some false => cs[off]?
  | none => none

theorem opPart_run {P : Program} {E : Ren} {t : TypeId} {cs cs' : Array Value} {off : Nat} {v : Value} (h : opPart P t cs off = some v) (hr : RA E cs cs') (w : World) :
    ∃ v', (part t cs' off).run P w = .ok v' w ∧ RV E v v' := by
  unfold opPart at h
  split at h
  · rename_i e
    split at h
    · rename_i i hi
      cases h
      refine ⟨.agg (cs'.extract off (off + i.size)), ?_, .agg (hr.extract _ _).1 (hr.extract _ _).2⟩
      simp [part, agg_run e, siz_run hi]
    · cases h
  · rename_i e
    obtain ⟨v', h1, h2⟩ := hr.get h
    exact ⟨v', by simp [part, agg_run e, h1], h2⟩
  · cases h

def opField (P : Program) (s : TypeId) (v : Value) (f : Nat) : Option Value :=
  match P.underlying s, v with
  | some (.struct fs), .agg cs => match fs[f]? with
    | some fd => opPart P fd.type cs fd.offset
    | none => none
  | _, _ => none

theorem opField_run {P : Program} {E : Ren} {s : TypeId} {x x' : Value} {f : Nat} {v : Value} (h : opField P s x f = some v) (hr : RV E x x') (w : World) :
    ∃ v', (Instr.field s x' f).run P w = .ok v' w ∧ RV E v v' := by
  unfold opField at h
  split at h
  · rename_i fs cs e
    split at h
    · rename_i fd hf
      cases hr with
      | agg hn hh =>
        obtain ⟨v', h1, h2⟩ := opPart_run h ⟨hn, hh⟩ w
        exact ⟨v', by simp [Instr.field, und_run e, hf, asAgg, h1], h2⟩
    · cases h
  · cases h

/-- cells of a row -/
def opCells (h : AH) (a : Addr) (n : Nat) : Option (Array Value) :=
  if a.spot.isSome then none else
  match h.get a.block with
  | some (.cells c _ _, _) => if a.off + n ≤ c.size then some (c.extract a.off (a.off + n)) else none
  | _ => none

theorem add_off {b off i : Nat} : (⟨b, off, none⟩ : Addr).add i = ⟨b, off + i, none⟩ := by
  unfold Addr.add
  split
  · rename_i e; subst e; rfl
  · rfl

theorem loadCellsFrom_run {P : Program} {w : World} {b off : Nat} {c : Array Value} {e : TypeId} {fz : Nat × Nat} (hb : w.heap[b]? = some (.cells c e fz)) :
    ∀ (n i : Nat) (acc : Array Value), off + i + n ≤ c.size → (loadCellsFrom ⟨b, off, none⟩ i n acc).run P w = .ok (acc ++ c.extract (off + i) (off + i + n)) w := by
  intro n
  induction n with
  | zero => intro i acc hn; simp [loadCellsFrom]; omega
  | succ n ih =>
    intro i acc hn
    have hlt : off + i < c.size := by omega
    have hc : w.cell? ⟨b, off + i, none⟩ = some c[off + i] := by simp [World.cell?, hb, hlt]
    simp only [loadCellsFrom, add_off, Sem.run_bind, run_load, hc, Result.andThen_ok]
    rw [ih (i + 1) _ (by omega)]
    congr 1
    apply Array.ext'
    simp only [Array.toList_append, Array.toList_push, Array.toList_extract, List.append_assoc]
    congr 1
    simp only [List.extract_eq_take_drop]
    have e1 : off + i + (n + 1) - (off + i) = n + 1 := by omega
    have e2 : off + (i + 1) + n - (off + (i + 1)) = n := by omega
    have e3 : off + (i + 1) = off + i + 1 := by omega
    rw [e1, e2, e3]
    have hd : c.toList.drop (off + i) = c[off + i] :: c.toList.drop (off + i + 1) := by
      rw [List.drop_eq_getElem_cons (by simpa using hlt)]; simp
    rw [hd, List.take_succ_cons]
    rfl

theorem loadCells_run {P : Program} {w : World} {b off n : Nat} {c : Array Value} {e : TypeId} {fz : Nat × Nat} (hb : w.heap[b]? = some (.cells c e fz)) (hn : off + n ≤ c.size) :
    (loadCells ⟨b, off, none⟩ n).run P w = .ok (c.extract off (off + n)) w := by
  have := loadCellsFrom_run (P := P) hb n 0 #[] (by omega)
  simpa [loadCells] using this

/-- what a live row is in the world -/
theorem RW.cells {P : Program} {E : Ren} {h : AH} {w : World} (r : RW P E h w) {b b' : Nat} {c : Array Value} {e : TypeId} {fz : Nat × Nat} {s : Option Nat}
    (hb : h.get b = some (.cells c e fz, s)) (hat : E.at_ b = some b') :
    ∃ c' fz', w.heap[b']? = some (.cells c' e fz') ∧ c.size ≤ c'.size ∧ (∀ (i : Nat) v v', c[i]? = some v → c'[i]? = some v' → RV E v v') ∧
      (fz = (0, 0) → ∀ i, i < c'.size → ¬ (fz'.1 ≤ i ∧ i < fz'.2)) := by
  obtain ⟨n, o', h1, h2, h3, h4⟩ := r.live b _ s hb
  rw [hat] at h1; cases h1
  cases h3 with
  | hard hs h => exact ⟨_, _, h2, Nat.le_of_eq h.1, h.2, fun _ i _ => by simp⟩
  | soft hs hz hn hle hf h => exact ⟨_, _, h2, hle, h, fun _ i hi => by simp only; omega⟩
  | ice hle h => exact ⟨_, _, h2, hle, h, fun e => by cases e⟩

theorem opCells_run {P : Program} {E : Ren} {h : AH} {w : World} (r : RW P E h w) {a : Addr} {n b' : Nat} {l : Array Value} (hl : opCells h a n = some l)
    (hat : E.at_ a.block = some b') : a.spot = none ∧ ∃ l', (loadCells ⟨b', a.off, none⟩ n).run P w = .ok l' w ∧ RA E l l' := by
  unfold opCells at hl
  split at hl
  · cases hl
  · rename_i hs
    refine ⟨by simpa using hs, ?_⟩
    split at hl
    · rename_i c e fz s hb
      split at hl
      · rename_i hn
        cases hl
        obtain ⟨c', fz', h1, h2, h3, h4⟩ := r.cells hb hat
        refine ⟨_, loadCells_run h1 (by omega), ?_, fun i v v' hv hv' => ?_⟩
        · simp; omega
        · rw [Array.getElem?_extract] at hv hv'
          split at hv
          · split at hv'
            · exact h3 _ _ _ hv hv'
            · cases hv'
          · cases hv
      · cases hl
    · cases hl

def opLoad (P : Program) (h : AH) (t : TypeId) (v : Value) : Option Value :=
  match v with
  | .pointer (some a) =>
    match agg? P t with
    | some true => match P.info? t with
      | some i => (opCells h a i.size).map .agg
      | none => none
    | some false => (opCells h a 1).bind (·[0]?)
    | none => none
  | .func (.yield 1) _ d =>
    match agg? P t with
    | some true => match P.info? t with
      | some i => if i.size ≤ d.size then some (.agg (d.extract 0 i.size)) else none
      | none => none
    | some false => d[0]?
    | none => none
  | _ => none

theorem load_run {P : Program} {E : Ren} {w : World} {t : TypeId} {b off n : Nat} {l l' : Array Value} {v : Value} (hr : RA E l l') (hl : ∀ m, m = n → (loadCells ⟨b, off, none⟩ m).run P w = .ok l' w)
    (hv : (agg? P t = some true ∧ (∃ i, P.info? t = some i ∧ i.size = n) ∧ v = .agg l) ∨ (agg? P t = some false ∧ n = 1 ∧ l[0]? = some v)) :
    ∃ v', (Instr.loadAt t (.pointer (some ⟨b, off, none⟩))).run P w = .ok v' w ∧ RV E v v' := by
  have hl := hl n rfl
  rcases hv with ⟨e, ⟨i, hi, rfl⟩, rfl⟩ | ⟨e, rfl, h2⟩
  · exact ⟨.agg l', by simp [Instr.loadAt, Instr.sureAddr, loadVar, agg_run e, siz_run hi, hl], .agg hr.1 hr.2⟩
  · obtain ⟨v', h5, h6⟩ := hr.get h2
    refine ⟨v', ?_, h6⟩
    simp only [Instr.loadAt, Instr.sureAddr, loadVar, Sem.run_bind, Sem.run_pure, Result.andThen_ok, agg_run e, Bool.false_eq_true, if_false]
    simp only [loadCells, loadCellsFrom, add_off, Nat.add_zero, Sem.run_bind, run_load] at hl
    rw [run_load]
    cases hc : w.cell? ⟨b, off, none⟩ with
    | some u =>
      rw [hc] at hl
      simp at hl
      subst hl
      simp at h5
      subst h5
      rfl
    | none =>
      rw [hc] at hl
      simp only at hl ⊢
      split at hl
      · rename_i u l2 hu
        simp at hl
        subst hl
        simp at h5
        subst h5
        rfl
      · simp at hl

/-- cells that stay as they are -/
theorem RW.still {P : Program} {E : Ren} {h : AH} {w : World} (r : RW P E h w) {d : Array Value} {b' off : Nat} {c : Array Value} (hf : E.fro b' = some c) (hn : off + d.size ≤ c.size)
    (hh : ∀ (i : Nat) v v', d[i]? = some v → c[off + i]? = some v' → RV E v v') {n : Nat} (hd : n ≤ d.size) : ∃ l', (loadCells ⟨b', off, none⟩ n).run P w = .ok l' w ∧ RA E (d.extract 0 n) l' := by
  obtain ⟨cw, e, fz, g1, g2, g3⟩ := r.frz b' c hf
  refine ⟨_, loadCells_run g1 (by omega), ?_, fun i v v' hv hv' => ?_⟩
  · simp; omega
  · rw [Array.getElem?_extract] at hv hv'
    split at hv
    · split at hv'
      · rw [Nat.zero_add] at hv
        rw [g3 _ (by omega)] at hv'
        exact hh i v v' hv hv'
      · cases hv'
    · cases hv

theorem opLoad_run {P : Program} {E : Ren} {h : AH} {w : World} (r : RW P E h w) {t : TypeId} {x x' v : Value} (hl : opLoad P h t x = some v) (hx : RV E x x') :
    ∃ v', (Instr.loadAt t x').run P w = .ok v' w ∧ RV E v v' := by
  unfold opLoad at hl
  split at hl
  · rename_i a
    cases hx with
    | ptr hat =>
      split at hl
      · rename_i e
        split at hl
        · rename_i i hi
          rw [Option.map_eq_some_iff] at hl
          obtain ⟨l, h1, rfl⟩ := hl
          obtain ⟨_, l', h2, h3⟩ := opCells_run r h1 hat
          exact load_run h3 (fun m hm => by rw [hm]; exact h2) (.inl ⟨e, ⟨i, hi, rfl⟩, rfl⟩)
        · cases hl
      · rename_i e
        rw [Option.bind_eq_some_iff] at hl
        obtain ⟨l, h1, h2⟩ := hl
        obtain ⟨_, l', h3, h4⟩ := opCells_run r h1 hat
        exact load_run h4 (fun m hm => by rw [hm]; exact h3) (.inr ⟨e, rfl, h2⟩)
      · cases hl
  · rename_i z d
    generalize hxx : Value.func (.yield 1) z d = xx at hx
    cases hx with
    | fp hf hn hh =>
      cases hxx
      split at hl
      · rename_i e
        split at hl
        · rename_i i hi
          split at hl
          · rename_i hle
            cases hl
            obtain ⟨l', h1, h2⟩ := r.still hf hn hh hle
            exact load_run h2 (fun m hm => by rw [hm]; exact h1) (.inl ⟨e, ⟨i, hi, rfl⟩, rfl⟩)
          · cases hl
        · cases hl
      · rename_i e
        have hlt : 1 ≤ d.size := by have := (Array.getElem?_eq_some_iff.1 hl).1; omega
        obtain ⟨l', h1, h2⟩ := r.still hf hn hh hlt
        exact load_run h2 (fun m hm => by rw [hm]; exact h1) (.inr ⟨e, rfl, by rw [Array.getElem?_extract, if_pos (by omega)]; exact hl⟩)
      · cases hl
    | _ => cases hxx
  · cases hl

end Go.Ab

/- AbOp2 -/
namespace Go.Ab
set_option linter.unusedVariables false
set_option linter.unusedSimpArgs false

def setFrom (c : Array Value) (k : Nat) : List Value → Array Value
  | [] => c
  | v :: vs => setFrom (c.setIfInBounds k v) (k + 1) vs

theorem setFrom_size : ∀ (vs : List Value) (c : Array Value) (k : Nat), (setFrom c k vs).size = c.size
  | [], c, k => rfl
  | v :: vs, c, k => by rw [setFrom, setFrom_size vs]; simp

/-- a row of an object of the world, put in place -/
def putRow (w : World) (b : Nat) (c : Array Value) (e : TypeId) (fz : Nat × Nat) : World := { w with heap := w.heap.setIfInBounds b (.cells c e fz) }

theorem storeCells_run {P : Program} {b off : Nat} {e : TypeId} {fz : Nat × Nat} : ∀ (vs : List Value) (i : Nat) (c : Array Value) (w : World),
    w.heap[b]? = some (.cells c e fz) → off + i + vs.length ≤ c.size → (∀ k, k < c.size → ¬ (fz.1 ≤ k ∧ k < fz.2)) → (∀ v ∈ vs, v.oneCell' = true) →
    (storeCells ⟨b, off, none⟩ vs i).run P w = .ok () (putRow w b (setFrom c (off + i) vs) e fz) := by
  intro vs
  induction vs with
  | nil =>
    intro i c w hb hn hf h1
    have : putRow w b c e fz = w := by
      unfold putRow
      obtain ⟨hl, hg⟩ := Array.getElem?_eq_some_iff.1 hb
      have : w.heap.setIfInBounds b (.cells c e fz) = w.heap := by
        apply Array.ext_getElem?
        intro k
        rw [Array.getElem?_setIfInBounds]
        split
        · rename_i e; subst e; rw [hb]
        · rfl
      rw [this]
    simp [storeCells, setFrom, this]
  | cons v vs ih =>
    intro i c w hb hn hf h1
    simp only [List.length_cons] at hn
    have hlt : off + i < c.size := by omega
    have hc : w.cell? ⟨b, off + i, none⟩ = some c[off + i] := by simp [World.cell?, hb, hlt]
    have hfr : w.frozen? ⟨b, off + i, none⟩ = false := by
      have := hf _ hlt
      simp only [World.frozen?, hb]
      rw [Bool.and_eq_false_iff]
      simp only [decide_eq_false_iff_not]
      omega
    have hset : w.setCell ⟨b, off + i, none⟩ v = putRow w b (c.setIfInBounds (off + i) v) e fz := by
      unfold World.setCell putRow
      congr 1
      obtain ⟨hl, hg⟩ := Array.getElem?_eq_some_iff.1 hb
      apply Array.ext_getElem?
      intro k
      rw [Array.getElem?_setIfInBounds, Array.getElem?_modify]
      split
      · rename_i e; subst e; simp [hb]
      · rfl
    have hb2 : (putRow w b (c.setIfInBounds (off + i) v) e fz).heap[b]? = some (.cells (c.setIfInBounds (off + i) v) e fz) := by
      obtain ⟨hl, hg⟩ := Array.getElem?_eq_some_iff.1 hb
      simp [putRow, hl]
    simp only [storeCells, Sem.run_bind, add_off]
    rw [run_store P w _ v _ (h1 v (by simp)), hc]
    simp only [hfr, Bool.false_eq_true, if_false, Result.andThen_ok, hset]
    rw [ih (i + 1) _ _ hb2 (by simp; omega) (by simpa using hf) (fun u hu => h1 u (by simp [hu]))]
    rw [setFrom]
    congr 1
    simp [putRow, Array.setIfInBounds_setIfInBounds, Nat.add_assoc]

theorem oneCell_rv {E : Ren} {v v' : Value} (h : RV E v v') : v'.oneCell' = v.oneCell' := by cases h <;> rfl

theorem mem_of_ra {E : Ren} {c c' : Array Value} (h : RA E c c') {v' : Value} (hv : v' ∈ c'.toList) : ∃ v ∈ c.toList, RV E v v' := by
  obtain ⟨i, hi⟩ := List.mem_iff_getElem?.1 hv
  rw [Array.getElem?_toList] at hi
  obtain ⟨hl, _⟩ := Array.getElem?_eq_some_iff.1 hi
  have hl' : i < c.size := h.1 ▸ hl
  have hg : c[i]? = some c[i] := Array.getElem?_eq_getElem hl'
  exact ⟨c[i], by simp, h.2 i _ _ hg hi⟩

theorem setFrom_get : ∀ (vs : List Value) (c : Array Value) (k i : Nat), (setFrom c k vs)[i]? = if k ≤ i ∧ i < k + vs.length ∧ i < c.size then vs[i - k]? else c[i]? := by
  intro vs
  induction vs with
  | nil => intro c k i; rw [setFrom, if_neg (by simp; omega)]
  | cons v vs ih =>
    intro c k i
    rw [setFrom, ih]
    simp only [Array.size_setIfInBounds, List.length_cons]
    by_cases h : k + 1 ≤ i ∧ i < k + 1 + vs.length ∧ i < c.size
    · rw [if_pos h, if_pos (by omega)]
      have : i - k = (i - (k + 1)) + 1 := by omega
      rw [this, List.getElem?_cons_succ]
    · rw [if_neg h]
      rw [Array.getElem?_setIfInBounds]
      by_cases hk : k = i
      · subst hk
        by_cases hl : k < c.size
        · rw [if_pos rfl, if_pos hl, if_pos ⟨Nat.le_refl _, by omega, hl⟩]; simp
        · rw [if_pos rfl, if_neg hl, if_neg (by omega), Array.getElem?_eq_none (by omega)]
      · rw [if_neg hk, if_neg (by omega)]

/-- what is written pointwise into related rows -/
theorem setFrom_rel {E : Ren} {c c' d d' : Array Value} (k : Nat) (hd : RA E d d') (hle : c.size ≤ c'.size)
    (h : ∀ (i : Nat) v v', c[i]? = some v → c'[i]? = some v' → RV E v v') :
    ∀ (i : Nat) v v', (setFrom c k d.toList)[i]? = some v → (setFrom c' k d'.toList)[i]? = some v' → RV E v v' := by
  intro i v v' hv hv'
  rw [setFrom_get] at hv hv'
  simp only [Array.length_toList, Array.getElem?_toList] at hv hv'
  split at hv
  · rename_i e
    rw [if_pos ⟨e.1, hd.1 ▸ e.2.1, by omega⟩] at hv'
    exact hd.2 _ _ _ hv hv'
  · rename_i e
    obtain ⟨hl, _⟩ := Array.getElem?_eq_some_iff.1 hv
    rw [if_neg (by rw [← hd.1]; omega)] at hv'
    exact h _ _ _ hv hv'

/-- cells written to a live row -/
def opSetCells (h : AH) (a : Addr) (vs : Array Value) : Option AH :=
  if a.spot.isSome then none else
  match h.get a.block with
  | some (.cells c e fz, s) => if fz = (0, 0) ∧ a.off + vs.size ≤ c.size ∧ vs.toList.all Value.oneCell' = true then some (h.put a.block (some (.cells (setFrom c a.off vs.toList) e (0, 0), s))) else none
  | _ => none

theorem opSetCells_run {P : Program} {E : Ren} {h h' : AH} {w : World} (r : RW P E h w) {a : Addr} {b' : Nat} {vs vs' : Array Value} (hl : opSetCells h a vs = some h')
    (hat : E.at_ a.block = some b') (hv : RA E vs vs') :
    a.spot = none ∧ ∃ w', (storeCells ⟨b', a.off, none⟩ vs'.toList).run P w = .ok () w' ∧ RW P E h' w' ∧ Ext E w E w' ∧ w'.heap.size = w.heap.size := by
  unfold opSetCells at hl
  split at hl
  · cases hl
  · rename_i hs
    refine ⟨by simpa using hs, ?_⟩
    split at hl
    · rename_i c e fz s hb
      split at hl
      · rename_i hn
        cases hl
        obtain ⟨rfl, hn⟩ := hn
        obtain ⟨n, o', h1, h2, h3, h4⟩ := r.live _ _ _ hb
        rw [hat] at h1; cases h1
        obtain ⟨c', fz', g1, g2, g3, g4⟩ := r.cells hb hat
        rw [h2] at g1; cases g1
        have hrun := storeCells_run (P := P) (off := a.off) vs'.toList 0 c' w h2 (by have := hv.1; simp; omega) (g4 rfl) (fun v' hv' => by
          obtain ⟨v, m1, m2⟩ := mem_of_ra hv hv'
          rw [oneCell_rv m2]; exact List.all_eq_true.1 hn.2 v m1)
        rw [Nat.add_zero] at hrun
        have ho : RO E (E.soft a.block) (.cells (setFrom c a.off vs.toList) e (0, 0)) (.cells (setFrom c' a.off vs'.toList) e fz') := by
          cases h3 with
          | hard hs hh =>
            exact .hard hs ⟨by rw [setFrom_size, setFrom_size]; exact hh.1, setFrom_rel _ hv g2 g3⟩
          | soft hs hz hn' hle hf hh =>
            exact .soft hs hz (by rw [setFrom_size]; exact hn') (by rw [setFrom_size, setFrom_size]; exact hle) (by rw [setFrom_size]; exact hf) (setFrom_rel _ hv g2 g3)
        obtain ⟨q1, q2⟩ := r.put hb rfl hat ho
        exact ⟨_, hrun, q1, q2, by simp [putRow]⟩
      · cases hl
    · cases hl

def opStore (P : Program) (h : AH) (t : TypeId) (addr val : Value) : Option AH :=
  match addr with
  | .pointer (some a) => match P.info? t with
    | some i => if val.cells.size = i.size then opSetCells h a val.cells else none
    | none => none
  | _ => none

theorem opStore_run {P : Program} {E : Ren} {h h' : AH} {w : World} (r : RW P E h w) {t : TypeId} {x x' v v' : Value} (hl : opStore P h t x v = some h') (hx : RV E x x') (hv : RV E v v') :
    ∃ w', (Instr.storeAt t x' v').run P w = .ok () w' ∧ RW P E h' w' ∧ Ext E w E w' := by
  unfold opStore at hl
  split at hl
  · rename_i a
    split at hl
    · rename_i i hi
      split at hl
      · rename_i hn
        cases hx with
        | ptr hat =>
          obtain ⟨_, w', h1, h2, h3, _⟩ := opSetCells_run r hl hat hv.ra
          refine ⟨w', ?_, h2, h3⟩
          have hs : v'.cells.size = i.size := by rw [← hv.ra.1]; exact hn
          simp [Instr.storeAt, Instr.sureAddr, storeVar, siz_run hi, hs, h1]
      · cases hl
    · cases hl
  · cases hl

/-- a new row, of just the size that it has in the world -/
theorem RW.newRow {P : Program} {E : Ren} {h : AH} {w : World} (r : RW P E h w) {c c' : Array Value} (e : TypeId) (hc : RA E c c') :
    ∃ E', RW P E' (h.push (.cells c e (0, 0)) none) { w with heap := w.heap.push (.cells c' e (0, 0)) } ∧ Ext E w E' { w with heap := w.heap.push (.cells c' e (0, 0)) } ∧
      E'.at_ h.size = some w.heap.size ∧ E'.soft h.size = none := by
  have le := Ren.le_add r w.heap.size none
  obtain ⟨a, b⟩ := r.push none (.hard rfl (hc.mono le))
  exact ⟨_, a, b, by simp [Ren.add], by simp [Ren.add]⟩

def opNew (h : AH) (e : TypeId) (c : Array Value) : Value × AH := (.pointer (some ⟨h.size, 0, none⟩), h.push (.cells c e (0, 0)) none)

def opAlloc (P : Program) (h : AH) (e : TypeId) : Option (Value × AH) :=
  match P.info? e with
  | some i => match i.zero with
    | some z => if plain z then some (opNew h e z.cells) else none
    | none => none
  | none => none

theorem opAlloc_run {P : Program} {E : Ren} {h h' : AH} {w : World} (r : RW P E h w) {e : TypeId} {v : Value} (hl : opAlloc P h e = some (v, h')) :
    ∃ E' v' w', (Instr.alloc e true (.tuple #[])).run P w = .ok v' w' ∧ RW P E' h' w' ∧ Ext E w E' w' ∧ RV E' v v' := by
  unfold opAlloc at hl
  split at hl
  · rename_i i hi
    split at hl
    · rename_i z hz
      split at hl
      · rename_i hp
        cases hl
        obtain ⟨E', h1, h2, h3, h4⟩ := r.newRow e (RV.of_plain (E := E) hp).ra
        exact ⟨E', _, _, by simp [Instr.alloc, zero_run hi hz, newVar, newRow, run_newObj], h1, h2, .ptr h3⟩
      · cases hl
    · cases hl
  · cases hl

theorem opBox_run {P : Program} {E : Ren} {h : AH} {w : World} (r : RW P E h w) {e : TypeId} {x x' : Value} (hx : RV E x x') :
    ∃ E' v' w', (Instr.box e x').run P w = .ok v' w' ∧ RW P E' (opNew h e x.cells).2 w' ∧ Ext E w E' w' ∧ RV E' (opNew h e x.cells).1 v' := by
  obtain ⟨E', h1, h2, h3, h4⟩ := r.newRow e hx.ra
  exact ⟨E', _, _, by simp [Instr.box, newVar, newRow, run_newObj], h1, h2, .ptr h3⟩

end Go.Ab

/- AbOp3 -/
namespace Go.Ab
set_option linter.unusedVariables false
set_option linter.unusedSimpArgs false

def opFieldAddr (P : Program) (s : TypeId) (v : Value) (f : Nat) : Option Value :=
  match P.underlying s, v with
  | some (.struct fs), .pointer (some a) => match fs[f]? with
    | some fd => match P.info? fd.type with
      | some i => if i.size = 0 then none else if a.spot.isSome then none else some (.pointer (some (a.add fd.offset)))
      | none => none
    | none => none
  | some (.struct fs), .func (.yield 1) _ d => match fs[f]? with
    | some fd => match P.info? fd.type with
      | some i => if i.size = 0 then none else if fd.offset + i.size ≤ d.size then some (FPv (d.extract fd.offset (fd.offset + i.size))) else none
      | none => none
    | none => none
  | _, _ => none

/-- a part of cells that stay as they are -/
theorem RV.fpPart {E : Ren} {d : Array Value} {b' off : Nat} {c : Array Value} (hf : E.fro b' = some c) (hn : off + d.size ≤ c.size) (h : ∀ (i : Nat) v v', d[i]? = some v → c[off + i]? = some v' → RV E v v')
    {o n : Nat} (ho : o + n ≤ d.size) : RV E (FPv (d.extract o (o + n))) (.pointer (some ⟨b', off + o, none⟩)) := by
  refine .fp hf (by simp; omega) fun i v v' hv hv' => ?_
  rw [Array.getElem?_extract] at hv
  split at hv
  · exact h (o + i) v v' hv (by rw [← Nat.add_assoc]; exact hv')
  · cases hv

theorem fp_inv {E : Ren} {z d : Array Value} {x' : Value} (h : RV E (.func (.yield 1) z d) x') : ∃ b' off c, x' = .pointer (some ⟨b', off, none⟩) ∧ E.fro b' = some c ∧ off + d.size ≤ c.size ∧
    ∀ (i : Nat) v v', d[i]? = some v → c[off + i]? = some v' → RV E v v' := by
  generalize hxx : Value.func (.yield 1) z d = xx at h
  cases h with
  | fp hf hn hh => cases hxx; exact ⟨_, _, _, rfl, hf, hn, hh⟩
  | _ => cases hxx

theorem vs_inv {E : Ren} {z l : Array Value} {x' : Value} (h : RV E (.func (.yield 0) z l) x') : (l = #[] ∧ ∃ a' cap', x' = .slice (some a') 0 cap') ∨
    ∃ b' off cap s c, x' = .slice (some ⟨b', off, none⟩) l.size cap ∧ E.fro b' = some c ∧ 0 < s ∧ (∀ v ∈ l.toList, v.cells.size = s) ∧ off + l.size * s ≤ c.size ∧ l.size ≤ cap ∧
      ∀ (i : Nat) v v', (flatC l.toList)[i]? = some v → c[off + i]? = some v' → RV E v v' := by
  generalize hxx : Value.func (.yield 0) z l = xx at h
  cases h with
  | vs hf hs hl hn hc hh => cases hxx; exact .inr ⟨_, _, _, _, _, rfl, hf, hs, by simpa using hl, by simpa using hn, by simpa using hc, by simpa using hh⟩
  | vs0 => cases hxx; exact .inl ⟨rfl, _, _, rfl⟩
  | _ => cases hxx

theorem flatC_at {l : List Value} {s : Nat} (hl : ∀ v ∈ l, v.cells.size = s) : ∀ {i : Nat} {x : Value} (j : Nat), l[i]? = some x → j < s → (flatC l)[i * s + j]? = x.cells[j]? := by
  induction l with
  | nil => intro i x j h; simp at h
  | cons v l ih =>
    intro i x j h hj
    have hv := hl v (by simp)
    have e : flatC (v :: l) = v.cells.toList ++ flatC l := rfl
    rw [e]
    cases i with
    | zero =>
      simp at h; subst h
      rw [List.getElem?_append_left (by simp; omega)]; simp
    | succ i =>
      rw [List.getElem?_append_right (by simp [hv, Nat.succ_mul]; omega)]
      have : (i + 1) * s + j - v.cells.toList.length = i * s + j := by simp [hv, Nat.succ_mul]; omega
      rw [this]
      exact ih (fun u hu => hl u (by simp [hu])) j (by simpa using h) hj

theorem flatC_length {l : List Value} {s : Nat} (hl : ∀ v ∈ l, v.cells.size = s) : (flatC l).length = l.length * s := by
  induction l with
  | nil => simp [flatC]
  | cons v l ih =>
    have e : flatC (v :: l) = v.cells.toList ++ flatC l := rfl
    rw [e, List.length_append, ih (fun u hu => hl u (by simp [hu])), Array.length_toList, hl v (by simp), List.length_cons, Nat.succ_mul]; omega

theorem opFieldAddr_run {P : Program} {E : Ren} {s : TypeId} {x x' : Value} {f : Nat} {v : Value} (h : opFieldAddr P s x f = some v) (hr : RV E x x') (w : World) :
    ∃ v', (Instr.fieldAt s x' f).run P w = .ok v' w ∧ RV E v v' := by
  unfold opFieldAddr at h
  split at h
  · rename_i fs a e
    split at h
    · rename_i fd hf
      split at h
      · rename_i i hi
        split at h
        · cases h
        · rename_i hz
          split at h
          · cases h
          · cases hr with
            | ptr hat =>
              cases h
              refine ⟨_, ?_, by rw [add_off]; exact .ptr hat⟩
              simp [Instr.fieldAt, und_run e, hf, Instr.sureAddr, fieldPlace, siz_run hi, hz, add_off]
      · cases h
    · cases h
  · rename_i fs z d e
    split at h
    · rename_i fd hf
      split at h
      · rename_i i hi
        split at h
        · cases h
        · rename_i hz
          split at h
          · rename_i hle
            cases h
            obtain ⟨b', off, c, rfl, h1, h2, h3⟩ := fp_inv hr
            refine ⟨_, ?_, RV.fpPart h1 h2 h3 hle⟩
            simp [Instr.fieldAt, und_run e, hf, Instr.sureAddr, fieldPlace, siz_run hi, hz, add_off]
          · cases h
      · cases h
    · cases h
  · cases h

def opIndexAddr (P : Program) (t : TypeId) (x ix : Value) : Option Value :=
  match ix with
  | .int k i =>
    match P.underlying t, x with
    | some (.array len elem), .pointer (some a) => match P.info? elem with
      | some d => if a.spot.isSome then none else if 0 ≤ i ∧ i < len then some (.pointer (some (a.add (i.toNat * d.size)))) else none
      | none => none
    | some (.slice elem), .slice (some a) len _ => match P.info? elem with
      | some d => if a.spot.isSome then none else if 0 ≤ i ∧ i < len then some (.pointer (some (a.add (i.toNat * d.size)))) else none
      | none => none
    | some (.array len elem), .func (.yield 1) _ c => match P.info? elem with
      | some d => if 0 ≤ i ∧ i < len ∧ i.toNat * d.size + d.size ≤ c.size then some (FPv (c.extract (i.toNat * d.size) (i.toNat * d.size + d.size))) else none
      | none => none
    | some (.slice elem), .func (.yield 0) _ l => match P.info? elem with
      | some d => if 0 ≤ i then match l[i.toNat]? with
        | some v => if v.cells.size = d.size then some (FPv v.cells) else none
        | none => none
        else none
      | none => none
    | _, _ => none
  | _ => none

theorem opIndexAddr_run {P : Program} {E : Ren} {t : TypeId} {x x' ix : Value} {v : Value} (h : opIndexAddr P t x ix = some v) (hr : RV E x x') (w : World) :
    ∃ v', (Instr.indexAt t x' ix).run P w = .ok v' w ∧ RV E v v' := by
  unfold opIndexAddr at h
  split at h
  · rename_i k i
    split at h
    · rename_i len elem a e
      split at h
      · rename_i d hd
        split at h
        · cases h
        · split at h
          · rename_i hi
            cases hr with
            | ptr hat =>
              cases h
              refine ⟨_, ?_, by rw [add_off]; exact .ptr hat⟩
              simp [Instr.indexAt, asIntOf, und_run e, Instr.sureAddr, hi.1, hi.2, siz_run hd, add_off]
          · cases h
      · cases h
    · rename_i elem a len cap e
      split at h
      · rename_i d hd
        split at h
        · cases h
        · split at h
          · rename_i hi
            cases hr with
            | slice hat _ =>
              cases h
              refine ⟨_, ?_, by rw [add_off]; exact .ptr hat⟩
              simp [Instr.indexAt, asIntOf, und_run e, Instr.sureAddr, hi.1, hi.2, siz_run hd, add_off]
            | softSlice hat _ _ _ _ =>
              cases h
              refine ⟨_, ?_, by rw [add_off]; exact .ptr hat⟩
              simp [Instr.indexAt, asIntOf, und_run e, Instr.sureAddr, hi.1, hi.2, siz_run hd, add_off]
            | stub _ => exact absurd hi.2 (by omega)
          · cases h
      · cases h
    · rename_i len elem z c e
      split at h
      · rename_i d hd
        split at h
        · rename_i hi
          cases h
          obtain ⟨b', off, c', rfl, h1, h2, h3⟩ := fp_inv hr
          refine ⟨_, ?_, RV.fpPart h1 h2 h3 hi.2.2⟩
          simp [Instr.indexAt, asIntOf, und_run e, Instr.sureAddr, hi.1, hi.2.1, siz_run hd, add_off]
        · cases h
      · cases h
    · rename_i elem z l e
      split at h
      · rename_i d hd
        split at h
        · rename_i hi
          split at h
          · rename_i v hv
            split at h
            · rename_i hvs
              cases h
              have hlt := (Array.getElem?_eq_some_iff.1 hv).1
              rcases vs_inv hr with ⟨rfl, _⟩ | ⟨b', off, cap, s, c, rfl, h1, h2, h3, h4, h5, h6⟩
              · simp at hlt
              · have hvl : l.toList[i.toNat]? = some v := by simpa using hv
                have hss : v.cells.size = s := h3 v (List.mem_of_getElem? hvl)
                have hsd : d.size = s := by omega
                have hmul : i.toNat * s + s ≤ l.size * s := by rw [← Nat.succ_mul]; exact Nat.mul_le_mul_right _ hlt
                refine ⟨.pointer (some ⟨b', off + i.toNat * d.size, none⟩), ?_, .fp h1 (by rw [hsd]; omega) fun j x x' hx hx' => ?_⟩
                · have hb : i < (l.size : Int) := by omega
                  simp [Instr.indexAt, asIntOf, und_run e, Instr.sureAddr, hi, hb, siz_run hd, add_off]
                · have hj : j < s := by have := (Array.getElem?_eq_some_iff.1 hx).1; omega
                  exact h6 (i.toNat * s + j) x x' (by rw [flatC_at h3 j hvl hj]; exact hx) (by rw [← Nat.add_assoc, ← hsd]; exact hx')
            · cases h
          · cases h
        · cases h
      · cases h
    · cases h
  · cases h

def bound? (v : Value) (y : Nat) : Option Nat :=
  match v with
  | .int _ i => if 0 ≤ i ∧ i ≤ y then some i.toNat else none
  | _ => none

theorem bound_le {v : Value} {y n : Nat} (h : bound? v y = some n) : n ≤ y := by
  unfold bound? at h
  split at h
  · split at h
    · rename_i hi; cases h; omega
    · cases h
  · cases h

theorem bound_run {P : Program} {v : Value} {y y' n : Nat} (h : bound? v y = some n) (hy : y ≤ y') (c : BoundsCode) (w : World) : (Instr.sliceBound v y' c).run P w = .ok n w := by
  unfold bound? at h
  split at h
  · rename_i k i
    split at h
    · rename_i hi
      cases h
      have : 0 ≤ i ∧ i ≤ (y' : Int) := ⟨hi.1, by omega⟩
      simp [Instr.sliceBound, asIntOf, this.1, this.2]
    · cases h
  · cases h

/-- the bounds of a slice without a maximum: from, to -/
def bounds? (len cap : Nat) (low high : Option Value) : Option (Nat × Nat) :=
  match (match high with | some v => bound? v cap | none => some len) with
  | some h => match (match low with | some v => bound? v h | none => some 0) with
    | some l => some (l, h)
    | none => none
  | none => none

theorem bounds_run {P : Program} {len cap cap' : Nat} {low high : Option Value} {l h : Nat} (hb : bounds? len cap low high = some (l, h)) (hc : cap ≤ cap') (b : Bool) (w : World) :
    (Instr.sliceBounds b len cap' low high none).run P w = .ok (l, h, cap') w := by
  unfold bounds? at hb
  split at hb
  · rename_i h0 e
    split at hb
    · rename_i l0 e'
      cases hb
      unfold Instr.sliceBounds
      cases high with
      | none =>
        simp only at e; cases e
        cases low with
        | none => simp only at e'; cases e'; simp
        | some v => simp only at e'; simp [bound_run e' (Nat.le_refl _)]
      | some u =>
        simp only at e
        cases low with
        | none => simp only at e'; cases e'; simp [bound_run e hc]
        | some v => simp only at e'; simp [bound_run e hc, bound_run e' (Nat.le_refl _)]
    · cases hb
  · cases hb

theorem bounds_le {len cap : Nat} {low high : Option Value} {l h : Nat} (hb : bounds? len cap low high = some (l, h)) (hlc : len ≤ cap) : l ≤ h ∧ h ≤ cap := by
  unfold bounds? at hb
  split at hb
  · rename_i h0 e
    split at hb
    · rename_i l0 e'
      cases hb
      have e2 : h ≤ cap := by
        cases high with
        | none => simp only at e; cases e; exact hlc
        | some u => exact bound_le e
      have e3 : l ≤ h := by
        cases low with
        | none => simp only at e'; cases e'; exact Nat.zero_le _
        | some u => exact bound_le e'
      exact ⟨e3, e2⟩
    · cases hb
  · cases hb

/-- a slice of a slice or of an array that an address is of (no maximum) -/
def opSlice (P : Program) (h : AH) (t : TypeId) (x : Value) (low high : Option Value) : Option Value :=
  match P.underlying t, x with
  | some (.array n elem), .pointer (some a) => match P.info? elem, h.get a.block, bounds? n n low high with
    | some d, some (_, none), some (l, g) => if a.spot.isSome then none else some (.slice (some (if n = l then a else a.add (l * d.size))) (g - l) (n - l))
    | _, _, _ => none
  | some (.slice elem), .slice none len cap => match P.info? elem, bounds? len cap low high with
    | some d, some (l, g) => some (.slice none (g - l) (cap - l))
    | _, _ => none
  | some (.slice elem), .slice (some a) len cap => match P.info? elem, bounds? len cap low high, h.get a.block with
    | some d, some (l, g), some (_, s) => if a.spot.isSome then none else if len ≤ cap ∧ s.all (· = d.size) then
        some (.slice (some (if cap = l then a else a.add (l * d.size))) (g - l) (cap - l)) else none
    | _, _, _ => none
  | some (.slice elem), .func (.yield 0) _ vs => match P.info? elem, bounds? vs.size vs.size low high with
    | some d, some (l, g) => if (vs[0]?).all (·.cells.size = d.size) then some (VSl ((vs.toList.drop l).take (g - l))) else none
    | _, _ => none
  | _, _ => none

/-- a part of a slice whose elements stay -/
theorem RV.vsPart {E : Ren} {l : List Value} {b' off s : Nat} {c : Array Value} (hf : E.fro b' = some c) (hs : 0 < s) (hl : ∀ v ∈ l, v.cells.size = s) (hn : off + l.length * s ≤ c.size)
    (h : ∀ (i : Nat) v v', (flatC l)[i]? = some v → c[off + i]? = some v' → RV E v v') {i n cap : Nat} (hi : i + n ≤ l.length) (hc : n ≤ cap) :
    RV E (VSl ((l.drop i).take n)) (.slice (some ⟨b', off + i * s, none⟩) n cap) := by
  have hlen : ((l.drop i).take n).length = n := by simp; omega
  have hm : ∀ v ∈ (l.drop i).take n, v.cells.size = s := fun v hv => hl v (List.mem_of_mem_drop (List.mem_of_mem_take hv))
  have hle : (i + n) * s ≤ l.length * s := Nat.mul_le_mul_right _ hi
  rw [Nat.add_mul] at hle
  have := RV.vs (E := E) (l := (l.drop i).take n) (b' := b') (off := off + i * s) (cap := cap) hf hs hm (by rw [hlen]; omega) (by rw [hlen]; exact hc) fun j v v' hv hv' => ?_
  · rw [hlen] at this; exact this
  · have hj : j < n * s := by
      have := (List.getElem?_eq_some_iff.1 hv).1
      rw [flatC_length hm, hlen] at this; exact this
    have hq : j / s < n := (Nat.div_lt_iff_lt_mul hs).2 hj
    have hjs : j / s * s + j % s = j := by rw [Nat.mul_comm]; exact Nat.div_add_mod j s
    have hx : ((l.drop i).take n)[j / s]? = some (l[i + j / s]'(by omega)) := by
      rw [List.getElem?_take, if_pos hq, List.getElem?_drop, List.getElem?_eq_getElem]
    have hx2 : l[i + j / s]? = some (l[i + j / s]'(by omega)) := List.getElem?_eq_getElem _
    have e1 := flatC_at hm (j % s) hx (Nat.mod_lt _ hs)
    have e2 := flatC_at hl (j % s) hx2 (Nat.mod_lt _ hs)
    rw [hjs] at e1
    rw [e1, ← e2] at hv
    refine h _ v v' hv ?_
    rw [← hv']
    congr 1
    rw [Nat.add_mul]; omega

theorem opSlice_run {P : Program} {E : Ren} {h : AH} {w : World} (r : RW P E h w) {t : TypeId} {x x' : Value} {low high : Option Value} {v : Value}
    (hv : opSlice P h t x low high = some v) (hr : RV E x x') : ∃ v', (Instr.sliceAt t x' low high none).run P w = .ok v' w ∧ RV E v v' := by
  unfold opSlice at hv
  split at hv
  · rename_i n elem a e
    split at hv
    · rename_i d o l g hd hg hb
      split at hv
      · cases hv
      · cases hv
        cases hr with
        | ptr hat =>
          obtain ⟨n', o', h1, h2, h3, h4⟩ := r.live _ _ _ hg
          rw [hat] at h1; cases h1
          have hs := Option.map_eq_none_iff.1 h4.symm
          simp only [Instr.sliceAt, Sem.run_bind, und_run e, Result.andThen_ok, Instr.sureAddr, Sem.run_pure, bounds_run hb (Nat.le_refl _), siz_run hd]
          refine ⟨_, rfl, ?_⟩
          rw [add_off, add_off]
          split
          · exact .slice hat hs
          · exact .slice hat hs
    · cases hv
  · rename_i elem len cap e
    split at hv
    · rename_i d l g hd hb
      cases hv
      cases hr with
      | nilSlice _ _ =>
        simp only [Instr.sliceAt, Instr.slice, Sem.run_bind, und_run e, Result.andThen_ok, bounds_run hb (Nat.le_refl _), siz_run hd, Sem.run_pure]
        refine ⟨_, rfl, ?_⟩
        have : (if cap = l then (none : Option Addr) else Option.map (fun x : Addr => x.add (l * d.size)) none) = none := by split <;> rfl
        rw [this]
        exact .nilSlice _ _
    · cases hv
  · rename_i elem a len cap e
    split at hv
    · rename_i d l g o s hd hb hg
      split at hv
      · cases hv
      · split at hv
        · rename_i hlc
          obtain ⟨n', o', h1, h2, h3, h4⟩ := r.live _ _ _ hg
          obtain ⟨b1, b2⟩ := bounds_le hb hlc.1
          have hrun : ∀ (a' : Addr) (cap' : Nat), cap ≤ cap' → (Instr.sliceAt t (.slice (some a') len cap') low high none).run P w =
              .ok (.slice (some (if cap' = l then a' else a'.add (l * d.size))) (g - l) (cap' - l)) w := by
            intro a' cap' hc
            simp only [Instr.sliceAt, Instr.slice, Sem.run_bind, und_run e, Result.andThen_ok, bounds_run hb hc, siz_run hd, Sem.run_pure]
            by_cases e2 : cap' = l
            · simp [e2]
            · simp [e2]
          cases hr with
          | slice hat hs =>
            cases hv
            refine ⟨_, hrun _ _ (Nat.le_refl _), ?_⟩
            rw [add_off, add_off]
            split
            · exact .slice hat hs
            · exact .slice hat hs
          | softSlice hat hs ho hc hle =>
            cases hv
            refine ⟨_, hrun _ _ hle, ?_⟩
            rename_i bb' off0 cap0 C0 s0 i0 hspot
            have hsz : s0 = d.size := by
              have := hlc.2
              rw [h4, hs] at this
              simpa using this
            by_cases e2 : cap = l
            · have : g - l = 0 := by omega
              rw [if_pos e2, this]
              have : cap - l = 0 := by omega
              rw [this]
              exact .stub (by rw [hs]; rfl)
            · rw [if_neg e2, if_neg (by omega), add_off, add_off]
              exact .softSlice (i := i0 + l) hat hs (by rw [Nat.add_mul, ← ho, hsz]) (by omega) (by omega)
          | stub hs =>
            cases hv
            refine ⟨_, hrun _ _ (Nat.zero_le _), ?_⟩
            have e0 : l = 0 := by omega
            have e1 : g = 0 := by omega
            subst e0 e1
            rw [if_pos rfl]
            exact .stub hs
        · cases hv
    · cases hv
  · rename_i elem z vs e
    split at hv
    · rename_i d l g hd hb
      split at hv
      · rename_i hsz
        cases hv
        obtain ⟨b1, b2⟩ := bounds_le hb (Nat.le_refl _)
        have hrun : ∀ (a' : Addr) (cap' : Nat), vs.size ≤ cap' → (Instr.sliceAt t (.slice (some a') vs.size cap') low high none).run P w =
            .ok (.slice (some (if cap' = l then a' else a'.add (l * d.size))) (g - l) (cap' - l)) w := by
          intro a' cap' hc
          simp only [Instr.sliceAt, Instr.slice, Sem.run_bind, und_run e, Result.andThen_ok, bounds_run hb hc, siz_run hd, Sem.run_pure]
          by_cases e2 : cap' = l
          · simp [e2]
          · simp [e2]
        rcases vs_inv hr with ⟨rfl, a', cap', rfl⟩ | ⟨b', off, cap, s, c, rfl, h1, h2, h3, h4, h5, h6⟩
        · refine ⟨_, hrun a' cap' (Nat.zero_le _), ?_⟩
          simp at b2
          have : g - l = 0 := by omega
          simp only [this, List.take_zero]
          exact .vs0
        · refine ⟨_, hrun _ _ h5, ?_⟩
          by_cases hgl : g - l = 0
          · simp only [hgl, List.take_zero]; exact .vs0
          · have hne : ¬ cap = l := by omega
            rw [if_neg hne, add_off]
            have hv0 : vs[0]? = some vs[0] := Array.getElem?_eq_getElem (by omega)
            have hds : d.size = s := by
              rw [hv0] at hsz
              have e1 : vs[0].cells.size = d.size := by simpa using hsz
              rw [← e1]; exact h3 _ (by simp)
            rw [hds]
            exact RV.vsPart h1 h2 h3 (by simpa using h4) h6 (by simp; omega) (by omega)
      · cases hv
    · cases hv
  · cases hv

/-- a component of a row, of a tuple -/
def opIndex (P : Program) (t : TypeId) (x ix : Value) : Option Value :=
  match ix, P.underlying t, x with
  | .int k i, some (.array len elem), .agg cs => match P.info? elem with
    | some d => if 0 ≤ i ∧ i < len then opPart P elem cs (i.toNat * d.size) else none
    | none => none
  | .int k i, some .string, .string s => if 0 ≤ i ∧ i.toNat < s.size then some (.int .u8 s[i.toNat]!.toNat) else none
  | _, _, _ => none

theorem opIndex_run {P : Program} {E : Ren} {t : TypeId} {x x' ix : Value} {v : Value} (h : opIndex P t x ix = some v) (hr : RV E x x') (w : World) :
    ∃ v', (Instr.index t x' ix).run P w = .ok v' w ∧ RV E v v' := by
  unfold opIndex at h
  split at h
  · rename_i k i len elem cs e
    split at h
    · rename_i d hd
      split at h
      · rename_i hi
        cases hr with
        | agg hn hh =>
          obtain ⟨v', h1, h2⟩ := opPart_run h ⟨hn, hh⟩ w
          exact ⟨v', by simp [Instr.index, asIntOf, und_run e, hi.1, hi.2, siz_run hd, h1], h2⟩
      · cases h
    · cases h
  · rename_i k i s e
    split at h
    · rename_i hi
      cases h
      cases hr with
      | string =>
        refine ⟨_, ?_, .int _ _⟩
        have : s[i.toNat]? = some s[i.toNat]! := by
          rw [getElem?_pos s i.toNat hi.2, getElem!_pos s i.toNat hi.2]
        simp [Instr.index, asIntOf, und_run e, hi.1, this]
    · cases h
  · cases h

def opExtract (x : Value) (i : Nat) : Option Value :=
  match x with
  | .tuple vs => vs[i]?
  | _ => none

theorem opExtract_run {P : Program} {E : Ren} {x x' : Value} {i : Nat} {v : Value} (h : opExtract x i = some v) (hr : RV E x x') (w : World) :
    ∃ v', (Instr.extract x' i).run P w = .ok v' w ∧ RV E v v' := by
  unfold opExtract at h
  split at h
  · cases hr with
    | tuple hn hh =>
      obtain ⟨v', h1, h2⟩ := RA.get ⟨hn, hh⟩ h
      exact ⟨v', by simp [Instr.extract, h1], h2⟩
  · cases h

def opMakeInterface (P : Program) (t : TypeId) (x : Value) : Option Value :=
  match P.underlying t with
  | some (.interface _) | none => none
  | some _ => some (.iface t x)

theorem opMakeInterface_run {P : Program} {E : Ren} {t : TypeId} {x x' v : Value} (h : opMakeInterface P t x = some v) (hr : RV E x x') (w : World) :
    ∃ v', (Instr.makeInterface t x').run P w = .ok v' w ∧ RV E v v' := by
  unfold opMakeInterface at h
  split at h
  · cases h
  · cases h
  · rename_i d hd e
    cases h
    refine ⟨_, ?_, .iface t hr⟩
    simp only [Instr.makeInterface, Sem.run_bind, und_run e, Result.andThen_ok]
    cases d <;> first | rfl | exact absurd rfl (hd _)

def opTypeAssert (P : Program) (x : Value) (asserted : TypeId) (ok : Bool) : Option Value :=
  let holds (v : Value) : Option Value := some (if ok then .tuple #[v, .bool true] else v)
  let fails : Option Value := if ok then match P.info? asserted with
    | some i => match i.zero with
      | some z => if plain z then some (.tuple #[z, .bool false]) else none
      | none => none
    | none => none
    else none
  match P.underlying asserted, x with
  | some (.interface _), .nilIface => fails
  | some (.interface want), .iface t v => match P.info? t with
    | some i => match Instr.missingMethod want i.methods with
      | none => holds (.iface t v)
      | some _ => fails
    | none => none
  | some _, .nilIface => fails
  | some _, .iface t v => if t = asserted then holds v else fails
  | _, _ => none

theorem RA.two {E : Ren} {a a' b b' : Value} (ha : RV E a a') (hb : RV E b b') : RA E #[a, b] #[a', b'] := by
  have := (RA.one ha).push hb
  exact this

theorem RV.tup {E : Ren} {c c' : Array Value} (h : RA E c c') : RV E (.tuple c) (.tuple c') := .tuple h.1 h.2

end Go.Ab

/- AbOp4 -/
namespace Go.Ab
set_option linter.unusedVariables false
set_option linter.unusedSimpArgs false

theorem opTypeAssert_run {P : Program} {E : Ren} {x x' : Value} {st t : TypeId} {ok : Bool} {v : Value} (h : opTypeAssert P x t ok = some v) (hr : RV E x x') (w : World) :
    ∃ v', (Instr.typeAssert x' st t ok).run P w = .ok v' w ∧ RV E v v' := by
  have holds : ∀ {u u' : Value}, RV E u u' → RV E (if ok then .tuple #[u, .bool true] else u) (if ok then .tuple #[u', .bool true] else u') := by
    intro u u' hu
    cases ok
    · exact hu
    · exact RV.tup (RA.two hu (.bool true))
  have fails : ∀ {u : Value}, (if ok = true then match P.info? t with
    | some i => match i.zero with
      | some z => if plain z = true then some (.tuple #[z, .bool false]) else none
      | none => none
    | none => none
    else none) = some u → ok = true ∧ ∃ z, (zeroValue t).run P w = .ok z w ∧ u = .tuple #[z, .bool false] ∧ plain z = true := by
    intro u hu
    split at hu
    · rename_i hok
      split at hu
      · rename_i i hi
        split at hu
        · rename_i z hz
          split at hu
          · rename_i hp
            cases hu
            exact ⟨hok, z, zero_run hi hz w, rfl, hp⟩
          · cases hu
        · cases hu
      · cases hu
    · cases hu
  unfold opTypeAssert at h
  simp only at h
  unfold Instr.typeAssert
  split at h
  · rename_i m e
    cases hr
    obtain ⟨hok, z, h1, h2, h3⟩ := fails h
    subst h2
    refine ⟨.tuple #[z, .bool false], ?_, RV.tup (RA.two (RV.of_plain h3) (.bool _))⟩
    simp [und_run e, hok, h1]
  · rename_i want ty u e
    split at h
    · rename_i i hi
      cases hr with
      | iface _ hu =>
        split at h
        · rename_i hm
          cases h
          refine ⟨_, ?_, holds (.iface ty hu)⟩
          simp only [Sem.run_bind, und_run e, Result.andThen_ok, info_run hi, hm, Sem.run_pure]
        · rename_i s hm
          obtain ⟨hok, z, h1, h2, h3⟩ := fails h
          subst h2
          refine ⟨.tuple #[z, .bool false], ?_, RV.tup (RA.two (RV.of_plain h3) (.bool _))⟩
          simp [und_run e, info_run hi, hm, hok, h1]
    · cases h
  · rename_i d hd e
    cases hr
    obtain ⟨hok, z, h1, h2, h3⟩ := fails h
    subst h2
    refine ⟨.tuple #[z, .bool false], ?_, RV.tup (RA.two (RV.of_plain h3) (.bool _))⟩
    simp only [Sem.run_bind, und_run e, Result.andThen_ok]
    cases d <;> first | (exact absurd rfl (hd _)) | simp [hok, h1]
  · rename_i d ty u hd e
    cases hr with
    | iface _ hu =>
      split at h
      · rename_i ht
        cases h
        refine ⟨_, ?_, holds hu⟩
        simp only [Sem.run_bind, und_run e, Result.andThen_ok]
        cases d <;> first | (exact absurd rfl (hd _)) | simp [ht]
      · rename_i ht
        obtain ⟨hok, z, h1, h2, h3⟩ := fails h
        subst h2
        refine ⟨.tuple #[z, .bool false], ?_, RV.tup (RA.two (RV.of_plain h3) (.bool _))⟩
        simp only [Sem.run_bind, und_run e, Result.andThen_ok]
        cases d <;> first | (exact absurd rfl (hd _)) | simp [ht, hok, h1]
  · cases h

/-- parts put into a row -/
def fillA (place : Nat → Option (Nat × Nat)) (cells : Array Value) : List (Nat × Value) → Option (Array Value)
  | [] => some cells
  | (i, v) :: rest =>
    match place i with
    | none => none
    | some (off, size) => if v.cells.size ≠ size || off + v.cells.size > cells.size then none else fillA place (setFrom cells off v.cells.toList) rest

theorem zip_setFrom : ∀ (l : List Value) (k off : Nat) (cs : Array Value), (l.zipIdx k).foldl (fun cs (p : Value × Nat) => cs.setIfInBounds (off + p.2) p.1) cs = setFrom cs (off + k) l
  | [], k, off, cs => rfl
  | v :: l, k, off, cs => by
    rw [List.zipIdx_cons, List.foldl_cons, zip_setFrom l (k + 1) off, setFrom]
    rfl

inductive Parts (E : Ren) : List (Nat × Value) → List (Nat × Value) → Prop
  | nil : Parts E [] []
  | cons {i : Nat} {v v' : Value} {l l' : List (Nat × Value)} (h : RV E v v') (t : Parts E l l') : Parts E ((i, v) :: l) ((i, v') :: l')

theorem fillA_run {E : Ren} {place : Nat → Option (Nat × Nat)} {l l' : List (Nat × Value)} (hp : Parts E l l') : ∀ {c c' r : Array Value}, RA E c c' → fillA place c l = some r →
    ∃ r', Instr.fill place c' l' = some r' ∧ RA E r r' := by
  induction hp with
  | nil => intro c c' r hc h; cases h; exact ⟨c', rfl, hc⟩
  | @cons i v v' l l' h t ih =>
    intro c c' r hc hf
    unfold fillA at hf
    unfold Instr.fill
    cases hpl : place i with
    | none => rw [hpl] at hf; cases hf
    | some os =>
      obtain ⟨off, size⟩ := os
      rw [hpl] at hf
      simp only at hf ⊢
      split at hf
      · cases hf
      · rename_i hn
        have hra := h.ra
        rw [← hra.1, ← hc.1, if_neg hn]
        have e : v'.cells.zipIdx.foldl (fun cs (c, j) => cs.setIfInBounds (off + j) c) c' = setFrom c' off v'.cells.toList := by
          rw [← Array.foldl_toList, Array.toList_zipIdx]
          exact zip_setFrom _ 0 off c'
        rw [e]
        exact ih ⟨by rw [setFrom_size, setFrom_size]; exact hc.1, setFrom_rel _ hra (Nat.le_of_eq hc.1) hc.2⟩ hf

def placesOf (P : Program) : List Field → Option (List (Nat × Nat))
  | [] => some []
  | f :: fs => match P.info? f.type, placesOf P fs with
    | some i, some l => some ((f.offset, i.size) :: l)
    | _, _ => none

theorem placesOf_run {P : Program} (w : World) : ∀ {fs : List Field} {l : List (Nat × Nat)}, placesOf P fs = some l →
    (fs.mapM fun f => do pure (f.offset, ← sizeOf f.type) : Sem (List (Nat × Nat))).run P w = .ok l w := by
  intro fs
  induction fs with
  | nil => intro l h; cases h; rfl
  | cons f fs ih =>
    intro l h
    unfold placesOf at h
    split at h
    · rename_i i l' hi hl
      cases h
      rw [List.mapM_cons]
      simp only [Sem.run_bind, siz_run hi, ih hl, Result.andThen_ok, Sem.run_pure]
    · cases h

def opBuild (P : Program) (t : TypeId) (parts : List (Nat × Value)) : Option Value :=
  match P.info? t with
  | some i => match i.zero with
    | some z => if plain z then match P.underlying t with
      | some (.struct fs) => match placesOf P fs.toList with
        | some pl => match fillA (fun i => pl[i]?) z.cells parts with
          | some c => some (.agg c)
          | none => none
        | none => none
      | some (.array _ elem) => match P.info? elem with
        | some d => match fillA (fun i => some (i * d.size, d.size)) z.cells parts with
          | some c => some (.agg c)
          | none => none
        | none => none
      | _ => none
      else none
    | none => none
  | none => none

theorem opBuild_run {P : Program} {E : Ren} {t : TypeId} {l : List (Nat × Value)} {l' : Array (Nat × Value)} {v : Value} (h : opBuild P t l = some v) (hp : Parts E l l'.toList) (w : World) :
    ∃ v', (Instr.build t l').run P w = .ok v' w ∧ RV E v v' := by
  unfold opBuild at h
  split at h
  · rename_i i hi
    split at h
    · rename_i z hz
      split at h
      · rename_i hpz
        have hzz := (RV.of_plain (E := E) hpz).ra
        split at h
        · rename_i fs e
          split at h
          · rename_i pl hpl
            split at h
            · rename_i c hc
              cases h
              obtain ⟨c', h1, h2⟩ := fillA_run hp hzz hc
              refine ⟨.agg c', ?_, .agg h2.1 h2.2⟩
              have hm : (fs.mapM fun f => do pure (f.offset, ← sizeOf f.type) : Sem (Array (Nat × Nat))).run P w = .ok pl.toArray w := by
                rw [Array.mapM_eq_mapM_toList]
                simp only [Sem.run_map, placesOf_run w hpl, Result.andThen_ok]
              simp only [Instr.build, Sem.run_bind, zero_run hi hz, Result.andThen_ok, und_run e, hm]
              have : (fun x : Nat => pl.toArray[x]?) = fun x : Nat => pl[x]? := by funext x; simp
              rw [this, h1]
              rfl
            · cases h
          · cases h
        · rename_i n elem e
          split at h
          · rename_i d hd
            split at h
            · rename_i c hc
              cases h
              obtain ⟨c', h1, h2⟩ := fillA_run hp hzz hc
              refine ⟨.agg c', ?_, .agg h2.1 h2.2⟩
              simp only [Instr.build, Sem.run_bind, zero_run hi hz, Result.andThen_ok, und_run e, siz_run hd, h1]
              rfl
            · cases h
          · cases h
        · cases h
      · cases h
    · cases h
  · cases h

/-- n cells of zeroes -/
def zrow (z : Array Value) : Nat → List Value
  | 0 => []
  | n + 1 => zrow z n ++ [z[n % z.size]!]

theorem zrow_eq (z : Array Value) (n : Nat) : (Array.range n).map (fun i => z[i % z.size]!) = (zrow z n).toArray := by
  induction n with
  | zero => simp [zrow]
  | succ n ih => rw [Array.range_succ, Array.map_append, ih, zrow]; simp

/-- cells of zeroes, n elements of type e; the elements must be plain -/
def zerosOf (P : Program) (e : TypeId) (n : Nat) : Option (Array Value) :=
  match P.info? e with
  | some i => if n * i.size = 0 then some #[] else match i.zero with
    | some z => if plain z && z.cells.size == i.size then
        some (if i.size = 1 then (List.replicate n z.cells[0]!).toArray else (zrow z.cells (n * i.size)).toArray) else none
    | none => none
  | none => none

theorem zerosOf_eq {P : Program} {e : TypeId} {n : Nat} {c : Array Value} (h : zerosOf P e n = some c) (w : World) :
    ∃ i, P.info? e = some i ∧ (∀ E : Ren, RA E c c) ∧
      ((n * i.size = 0 ∧ c = #[]) ∨ (n * i.size ≠ 0 ∧ ∃ z, (zeroValue e).run P w = .ok z w ∧ (Array.range (n * i.size)).map (fun k => z.cells[k % z.cells.size]!) = c)) := by
  unfold zerosOf at h
  split at h
  · rename_i i hi
    refine ⟨i, hi, ?_⟩
    split at h
    · rename_i h0
      cases h
      exact ⟨fun E => .empty, .inl ⟨h0, rfl⟩⟩
    · rename_i h0
      split at h
      · rename_i z hz
        split at h
        · rename_i hp
          simp only [Bool.and_eq_true, beq_iff_eq] at hp
          cases h
          have key : (Array.range (n * i.size)).map (fun k => z.cells[k % z.cells.size]!) = if i.size = 1 then (List.replicate n z.cells[0]!).toArray else (zrow z.cells (n * i.size)).toArray := by
            rw [zrow_eq]
            split
            · rename_i h1
              have hz1 : z.cells.size = 1 := hp.2.trans h1
              congr 1
              rw [h1, Nat.mul_one]
              clear h0 hz hi
              induction n with
              | zero => rfl
              | succ n ih => rw [zrow, ih, hz1, Nat.mod_one, List.replicate_succ']
            · rfl
          rw [← key]
          refine ⟨fun E => ⟨rfl, fun k v v' hv hv' => ?_⟩, .inr ⟨h0, z, zero_run hi hz w, rfl⟩⟩
          rw [hv] at hv'
          cases hv'
          obtain ⟨hk, hg⟩ := Array.getElem?_eq_some_iff.1 hv
          simp only [Array.getElem_map, Array.getElem_range] at hg
          have hpos : 0 < z.cells.size := by rw [hp.2]; exact Nat.pos_of_ne_zero (fun e => h0 (by simp [e]))
          have hlt := Nat.mod_lt k hpos
          rw [getElem!_pos z.cells _ hlt] at hg
          rw [← hg]
          exact (RV.of_plain (E := E) hp.1).ra.2 _ _ _ (Array.getElem?_eq_getElem hlt) (Array.getElem?_eq_getElem hlt)
        · cases h
      · cases h
  · cases h

def opBuildSlice (P : Program) (h : AH) (t : TypeId) (len : Nat) (parts : List (Nat × Value)) : Option (Value × AH) :=
  match P.underlying t with
  | some (.slice elem) => match P.info? elem with
    | some d => if len * d.size > 2 ^ 24 then none else match zerosOf P elem len with
      | some z => match fillA (fun i => some (i * d.size, d.size)) z parts with
        | some c => some (.slice (some ⟨h.size, 0, none⟩) len len, h.push (.cells c elem (0, 0)) none)
        | none => none
      | none => none
    | none => none
  | _ => none

theorem opBuildSlice_run {P : Program} {E : Ren} {h h' : AH} {w : World} (r : RW P E h w) {t : TypeId} {len : Nat} {l : List (Nat × Value)} {l' : Array (Nat × Value)} {v : Value}
    (hh : opBuildSlice P h t len l = some (v, h')) (hp : Parts E l l'.toList) :
    ∃ E' v' w', (Instr.buildSlice t len l').run P w = .ok v' w' ∧ RW P E' h' w' ∧ Ext E w E' w' ∧ RV E' v v' := by
  unfold opBuildSlice at hh
  split at hh
  · rename_i elem e
    split at hh
    · rename_i d hd
      split at hh
      · cases hh
      · rename_i hlim
        split at hh
        · rename_i z hz
          split at hh
          · rename_i c hc
            cases hh
            obtain ⟨i, hi, hra, hcase⟩ := zerosOf_eq hz w
            rw [hd] at hi; cases hi
            obtain ⟨c', h1, h2⟩ := fillA_run hp (hra E) hc
            obtain ⟨E', g1, g2, g3, g4⟩ := r.newRow elem h2
            refine ⟨E', _, _, ?_, g1, g2, .slice g3 g4⟩
            rcases hcase with ⟨h0, rfl⟩ | ⟨h0, z', hz', rfl⟩
            · simp only [Instr.buildSlice, Sem.run_bind, und_run e, Result.andThen_ok, siz_run hd, if_neg hlim, if_pos h0, Sem.run_pure]
              have : (Array.range (len * d.size)).map (fun k => (#[] : Array Value)[k % (#[] : Array Value).size]!) = #[] := by rw [h0]; simp
              rw [this, h1]
              simp [newRow, run_newObj]
            · simp only [Instr.buildSlice, Sem.run_bind, und_run e, Result.andThen_ok, siz_run hd, if_neg hlim, if_neg h0, hz', Sem.run_pure]
              rw [h1]
              simp [newRow, run_newObj]
          · cases hh
        · cases hh
    · cases hh
  · cases hh

def opMakeSlice (P : Program) (h : AH) (t : TypeId) (len cap : Value) : Option (Value × AH) :=
  match P.underlying t, len, cap with
  | some (.slice elem), .int _ l, .int _ c => match P.info? elem with
    | some d => if 0 ≤ l ∧ l ≤ c ∧ c < 2 ^ 24 ∧ d.bytes < 2 ^ 16 then match zerosOf P elem c.toNat with
      | some z => some (.slice (some ⟨h.size, 0, none⟩) l.toNat c.toNat, h.push (.cells z elem (0, 0)) none)
      | none => none
      else none
    | none => none
  | _, _, _ => none

theorem wrap_small {n : Int} (h0 : 0 ≤ n) (h : n < 2 ^ 24) : IntKind.i64.wrap n = n := by
  unfold IntKind.wrap
  simp [IntKind.bits, IntKind.signed]
  omega

theorem opMakeSlice_run {P : Program} {E : Ren} {h h' : AH} {w : World} (r : RW P E h w) {t : TypeId} {len cap : Value} {v : Value}
    (hh : opMakeSlice P h t len cap = some (v, h')) :
    ∃ E' v' w', (Instr.makeSlice t len cap).run P w = .ok v' w' ∧ RW P E' h' w' ∧ Ext E w E' w' ∧ RV E' v v' := by
  unfold opMakeSlice at hh
  split at hh
  · rename_i elem k1 l k2 c e
    split at hh
    · rename_i d hd
      split at hh
      · rename_i hlc
        split at hh
        · rename_i z hz
          cases hh
          obtain ⟨i, hi, hra, hcase⟩ := zerosOf_eq hz w
          rw [hd] at hi; cases hi
          obtain ⟨E', g1, g2, g3, g4⟩ := r.newRow elem (hra E)
          refine ⟨E', _, _, ?_, g1, g2, .slice g3 g4⟩
          have w1 := wrap_small hlc.1 (by omega : l < 2 ^ 24)
          have w2 := wrap_small (by omega : 0 ≤ c) hlc.2.2.1
          have hb : ¬ ((d.bytes : Int) * c > 2 ^ 48) := by
            have : (d.bytes : Int) * c ≤ 2 ^ 16 * 2 ^ 24 := Int.mul_le_mul (by omega) (by omega) (by omega) (by omega)
            omega
          have hc0 : ¬ c < 0 := by omega
          have hl0 : ¬ l < 0 := by omega
          have hlc' : ¬ l > c := by omega
          rcases hcase with ⟨h0, rfl⟩ | ⟨h0, z', hz', rfl⟩
          · simp only [Instr.makeSlice, Sem.run_bind, und_run e, Result.andThen_ok, asInt, asIntOf, Sem.run_pure, info_run hd, w1, w2, hb, hc0, hl0, hlc', decide_false, Bool.or_false, Bool.or_self, Bool.false_eq_true, if_false,
              run_askRoom, siz_run hd, if_pos h0]
            have : (Array.range (c.toNat * d.size)).map (fun k => (#[] : Array Value)[k % (#[] : Array Value).size]!) = #[] := by rw [h0]; simp
            rw [this]
            simp [newRow, run_newObj]
          · simp only [Instr.makeSlice, Sem.run_bind, und_run e, Result.andThen_ok, asInt, asIntOf, Sem.run_pure, info_run hd, w1, w2, hb, hc0, hl0, hlc', decide_false, Bool.or_false, Bool.or_self, Bool.false_eq_true, if_false,
              run_askRoom, siz_run hd, if_neg h0, hz']
            simp [newRow, run_newObj]
        · cases hh
      · cases hh
    · cases hh
  · cases hh

end Go.Ab

/- AbOp5 -/
namespace Go.Ab
set_option linter.unusedVariables false
set_option linter.unusedSimpArgs false

/-- a row that was made by append, grown: in the world it may lie where it lay -/
theorem RW.grow {P : Program} {E : Ren} {h : AH} {w : World} (r : RW P E h w) {b b' C z : Nat} {o₀ : Obj} {s₀ : Option Nat} (hb : h.get b = some (o₀, s₀)) (hi : iced o₀ = false) (hat : E.at_ b = some b')
    (hsoft : E.soft b = some (C, z)) {o o' : Obj} (ho : RO (E.add h.size b' (some (C, z))) (some (C, z)) o o') :
    RW P (E.add h.size b' (some (C, z))) ((h.put b none).push o (some z)) { w with heap := w.heap.setIfInBounds b' o' } ∧
      Ext E w (E.add h.size b' (some (C, z))) { w with heap := w.heap.setIfInBounds b' o' } := by
  have le := Ren.le_add r b' (some (C, z))
  have hlt := (r.dom b b' hat).2
  have hbs := (r.dom b b' hat).1
  have hnf := r.unfro hb hat hi
  refine ⟨⟨fun g hg => le.at_ g g (r.glob g hg), fun k n hk => ?_, fun k x hk => ?_, fun k x t hk => ?_, fun j k n hj hk gj gk => ?_, fun n c hn => ?_, fun k x t n hk hn hf => ?_, RW.sep_add r fun g hg => ?_⟩, ⟨le, fun k n hk => ?_, by simp, fun n hn hj => ?_, rfl, rfl, rfl, Nat.le_refl _, fun n hn => ?_⟩⟩
  · simp only [Ren.add] at hk
    split at hk
    · cases hk; subst_vars; simp [hlt]
    · have := r.dom k n hk; simp; omega
  · by_cases e : k = h.size
    · exact ⟨b', by simp [Ren.add, e]⟩
    · have hk' : E.soft k = some x := by simpa [Ren.add, e] using hk
      obtain ⟨n, hn⟩ := r.sdom k x hk'
      exact ⟨n, by simpa [Ren.add, e] using hn⟩
  · rw [AH.get_push, AH.size_put] at hk
    split at hk
    · rename_i e; subst e; cases hk
      exact ⟨b', o', by simp [Ren.add], by simp [hlt], by simpa [Ren.add] using ho, by simp [Ren.add]⟩
    · rename_i e
      rw [AH.get_put] at hk
      split at hk
      · cases hk
      · rename_i e2
        obtain ⟨n, o2, g1, g2, g3, g4⟩ := r.live k x t hk
        have hs : (E.add h.size b' (some (C, z))).soft k = E.soft k := le.soft k n g1
        have hne : n ≠ b' := fun he => e2 (r.inj k b n g1 (he ▸ hat) (by rw [hk]; rfl) (by rw [hb]; rfl))
        refine ⟨n, o2, le.at_ k n g1, ?_, hs ▸ g3.mono le, hs ▸ g4⟩
        simp only [Array.getElem?_setIfInBounds]
        rw [if_neg (fun e => hne e.symm)]; exact g2
  · have hd : ∀ (i : Nat), (E.add h.size b' (some (C, z))).at_ i = some n → (((h.put b none).push o (some z)).get i).isSome → (i = h.size ∧ n = b') ∨ (E.at_ i = some n ∧ i ≠ b ∧ (h.get i).isSome ∧ i < h.size) := by
      intro i hi gi
      simp only [Ren.add] at hi
      split at hi
      · cases hi; exact .inl ⟨by assumption, rfl⟩
      · rename_i e
        rw [AH.get_push, AH.size_put, if_neg e, AH.get_put] at gi
        split at gi
        · cases gi
        · rename_i e2
          exact .inr ⟨hi, e2, gi, (r.dom i n hi).1⟩
    rcases hd j hj gj with ⟨a1, a2⟩ | ⟨a1, a2, a3, a4⟩ <;> rcases hd k hk gk with ⟨b1, b2⟩ | ⟨b1, b2, b3, b4⟩
    · omega
    · subst a2
      exact absurd (r.inj k b _ b1 hat b3 (by rw [hb]; rfl)) b2
    · subst b2
      exact absurd (r.inj j b _ a1 hat a3 (by rw [hb]; rfl)) a2
    · exact r.inj j k n a1 b1 a3 b3
  · obtain ⟨cw, e, fz, g1, g2, g3⟩ := r.frz n c hn
    refine ⟨cw, e, fz, ?_, g2, g3⟩
    have : b' ≠ n := by rintro rfl; rw [show E.fro b' = _ from hn] at hnf; cases hnf
    simp only [Array.getElem?_setIfInBounds]
    rw [if_neg this]; exact g1
  · simp only [Ren.add] at hn hf
    split at hn
    · cases hn; rw [hnf] at hf; cases hf
    · rename_i e
      rw [AH.get_push, AH.size_put, if_neg e, AH.get_put] at hk
      split at hk
      · cases hk
      · exact r.icy k x t n hk hn hf
  · refine Nat.lt_of_lt_of_le hg (Nat.le_of_not_lt fun hlt' => ?_)
    have e := r.sep.2 b b' hat hlt'
    rw [r.sep.1 b (e ▸ hlt')] at hsoft
    cases hsoft
  · simp only [Ren.add] at hk
    split at hk
    · cases hk; exact .inl ⟨b, hat⟩
    · exact .inl ⟨k, hk⟩
  · have : b' ≠ n := fun e => hj b (e ▸ hat)
    simp only [Array.getElem?_setIfInBounds]
    rw [if_neg this]
  · have : b' ≠ n := by rintro rfl; rw [hnf] at hn; cases hn
    simp only [Array.getElem?_setIfInBounds]
    rw [if_neg this]

def opFirst (h : AH) (size n : Nat) (x : Value) : Option (Array Value) :=
  match x with
  | .slice (some a) _ _ => if n * size = 0 then some #[] else opCells h a (n * size)
  | .slice none _ _ => some #[]
  | .string s => some ((s.extract 0 n).data.map fun b => .int .u8 b.toNat)
  | .func (.yield 0) _ l => if n * size = 0 then some #[] else if (l[0]?).all (·.cells.size = size) ∧ n ≤ l.size then some (flatC (l.toList.take n)).toArray else none
  | _ => none

theorem RA.of_plain {E : Ren} {c : Array Value} (h : ∀ v ∈ c.toList, RV E v v) : RA E c c := by
  refine ⟨rfl, fun i v v' hv hv' => ?_⟩
  rw [hv] at hv'; cases hv'
  exact h v (by rw [← Array.getElem?_toList] at hv; exact List.mem_of_getElem? hv)

theorem opFirst_run {P : Program} {E : Ren} {h : AH} {w : World} (r : RW P E h w) {size n : Nat} {x x' : Value} {l : Array Value} (hl : opFirst h size n x = some l) (hx : RV E x x')
    (hstub : ∀ a c, x = .slice (some a) 0 c → n = 0) : ∃ l', (Builtin.firstCells size n x').run P w = .ok l' w ∧ RA E l l' := by
  unfold opFirst at hl
  split at hl
  · rename_i a ln cp
    by_cases h0 : n * size = 0
    · rw [if_pos h0] at hl; cases hl
      have : ∀ a', (Builtin.firstCells size n (.slice (some a') ln cp)).run P w = .ok #[] w := fun a' => by
        simp [Builtin.firstCells, h0, loadCells, loadCellsFrom]
      have key : ∀ a' ln' cp', (Builtin.firstCells size n (.slice (some a') ln' cp')).run P w = .ok #[] w := fun a' ln' cp' => by
        simp [Builtin.firstCells, h0, loadCells, loadCellsFrom]
      cases hx with
      | slice => exact ⟨#[], key _ _ _, .empty⟩
      | softSlice => exact ⟨#[], key _ _ _, .empty⟩
      | stub => exact ⟨#[], key _ _ _, .empty⟩
    · rw [if_neg h0] at hl
      cases hx with
      | slice hat _ =>
        obtain ⟨_, l', h1, h2⟩ := opCells_run r hl hat
        exact ⟨l', by simpa [Builtin.firstCells] using h1, h2⟩
      | softSlice hat _ _ _ _ =>
        obtain ⟨_, l', h1, h2⟩ := opCells_run r hl hat
        exact ⟨l', by simpa [Builtin.firstCells] using h1, h2⟩
      | stub _ => exact absurd (hstub _ _ rfl) (fun e => h0 (by simp [e]))
  · cases hl; cases hx
    exact ⟨#[], by simp [Builtin.firstCells], .empty⟩
  · cases hl; cases hx
    refine ⟨_, by simp [Builtin.firstCells], .of_plain fun v hv => ?_⟩
    simp only [Array.toList_map, List.mem_map] at hv
    obtain ⟨b, _, rfl⟩ := hv
    exact .int _ _
  · rename_i z vs
    split at hl
    · rename_i h0
      cases hl
      have key : ∀ a' ln' cp', (Builtin.firstCells size n (.slice (some a') ln' cp')).run P w = .ok #[] w := fun a' ln' cp' => by
        simp [Builtin.firstCells, h0, loadCells, loadCellsFrom]
      rcases vs_inv hx with ⟨rfl, a', cap', rfl⟩ | ⟨b', off, cap, s, c, rfl, h1, h2, h3, h4, h5, h6⟩
      · exact ⟨#[], key _ _ _, .empty⟩
      · exact ⟨#[], key _ _ _, .empty⟩
    · rename_i h0
      split at hl
      · rename_i hc
        cases hl
        rcases vs_inv hx with ⟨rfl, a', cap', rfl⟩ | ⟨b', off, cap, s, c, rfl, h1, h2, h3, h4, h5, h6⟩
        · have := hc.2
          simp at this
          subst this
          simp at h0
        · have hpos : 0 < vs.size := by
            have : n ≠ 0 := fun e => h0 (by simp [e])
            omega
          have hv0 : vs[0]? = some vs[0] := Array.getElem?_eq_getElem hpos
          have hds : size = s := by
            have := hc.1
            rw [hv0] at this
            have e1 : vs[0].cells.size = size := by simpa using this
            rw [← e1]; exact h3 _ (by simp)
          subst hds
          have hm : ∀ v ∈ vs.toList.take n, v.cells.size = size := fun v hv => h3 v (List.mem_of_mem_take hv)
          have hfl := flatC_length hm
          have hlen : (vs.toList.take n).length = n := by simp; omega
          rw [hlen] at hfl
          have hle : n * size ≤ vs.size * size := Nat.mul_le_mul_right _ hc.2
          have hpre : ∀ (i : Nat) v, (flatC (vs.toList.take n))[i]? = some v → (flatC vs.toList)[i]? = some v := by
            intro i v hv
            have : flatC vs.toList = flatC (vs.toList.take n) ++ flatC (vs.toList.drop n) := by
              unfold flatC
              rw [← List.flatMap_append, List.take_append_drop]
            rw [this, List.getElem?_append_left (List.getElem?_eq_some_iff.1 hv).1]
            exact hv
          obtain ⟨l', g1, g2⟩ := r.still (d := (flatC (vs.toList.take n)).toArray) h1 (by simp [hfl]; omega) (fun i v v' hv hv' => h6 i v v' (hpre i v (by simpa using hv)) hv') (n := n * size) (by simp [hfl])
          refine ⟨l', by simpa [Builtin.firstCells] using g1, ?_⟩
          have e : ((flatC (vs.toList.take n)).toArray).extract 0 (n * size) = (flatC (vs.toList.take n)).toArray := by
            rw [← hfl]; simp
          rw [e] at g2; exact g2
      · cases hl
  · cases hl

def lenOf? : Value → Option Nat
  | .slice _ n _ => some n
  | .string s => some s.size
  | .func (.yield 0) _ l => some l.size
  | _ => none

theorem lenOf_run {P : Program} {E : Ren} {x x' : Value} {n : Nat} (h : lenOf? x = some n) (hx : RV E x x') (w : World) : (Builtin.lenOf x').run P w = .ok n w := by
  cases hx <;> simp [lenOf?, VSl, FPv] at h <;> (try subst h) <;> simp [Builtin.lenOf]

/-- is the second argument of append a slice or a text (and no count of zeroes)? -/
def appendKind (P : Program) (argTypes : Array TypeId) : Bool :=
  match argTypes[1]? with
  | none => true
  | some t => match P.underlying t with
    | some (.int _) | none => false
    | some _ => true

def opAppend (P : Program) (h : AH) (argTypes : Array TypeId) (s x : Value) : Option (Value × AH) :=
  if appendKind P argTypes then
  match argTypes[0]? with
  | some st => match P.underlying st with
    | some (.slice elem) => match P.info? elem, lenOf? x with
      | some d, some n => match opFirst h d.size n x, s with
        | some new, .slice base sLen sCap =>
          if new.size = n * d.size then
          if sLen + n ≤ sCap then
            match base with
            | none => some (.slice none (sLen + n) sCap, h)
            | some a => if n * d.size = 0 then some (.slice base (sLen + n) sCap, h) else
              if a.spot.isSome then none else match opSetCells h (a.add (sLen * d.size)) new with
              | some h' => some (.slice base (sLen + n) sCap, h')
              | none => none
          else if 0 < d.size ∧ 0 < d.bytes ∧ d.bytes < 2 ^ 30 ∧ (sLen + n) * d.bytes < 2 ^ 40 ∧ (d.zero.any fun z => z.cells.size = d.size) then
            match opFirst h d.size sLen s with
            | some old => if old.size = sLen * d.size then match base with
              | none => some (.slice (some ⟨h.size, 0, none⟩) (sLen + n) (sLen + n), h.push (.cells (old ++ new) elem (0, 0)) (some d.size))
              | some a => match h.get a.block with
                | some (_, none) => some (.slice (some ⟨h.size, 0, none⟩) (sLen + n) (sLen + n), h.push (.cells (old ++ new) elem (0, 0)) (some d.size))
                | some (.cells _ e fz, some z) => if fz = (0, 0) ∧ z = d.size ∧ e = elem ∧ a.off = 0 ∧ a.spot = none ∧ 0 < sCap ∧ new.toList.all Value.oneCell' then
                    some (.slice (some ⟨h.size, 0, none⟩) (sLen + n) (sLen + n), (h.put a.block none).push (.cells (old ++ new) elem (0, 0)) (some d.size))
                    else none
                | _ => none
              else none
            | none => none
          else none
          else none
        | _, _ => none
      | _, _ => none
    | _ => none
  | none => none
  else none

theorem growBy_le (newLen : Nat) : ∀ (r c : Nat), Builtin.growBy newLen r c ≤ max c (newLen + (newLen + 768) / 4) := by
  intro r
  induction r with
  | zero => intro c; exact Nat.le_max_left _ _
  | succ r ih =>
    intro c
    rw [Builtin.growBy]
    split
    · exact Nat.le_max_left _ _
    · refine Nat.le_trans (ih _) (Nat.max_le.2 ⟨?_, Nat.le_max_right _ _⟩)
      refine Nat.le_trans ?_ (Nat.le_max_right _ _)
      omega

theorem nextslicecap_le {need old : Nat} (h : old < need) : Builtin.nextslicecap need old ≤ 2 * need + 192 := by
  unfold Builtin.nextslicecap
  split
  · omega
  · split
    · omega
    · have := growBy_le need 4 old
      omega

/-- what append does when there is no room -/
theorem append_new {P : Program} {w : World} {argTypes : Array TypeId} {st elem ty : TypeId} {d : TypeInfo} {z : Value} {s x : Value} {base : Option Addr} {sLen sCap n : Nat} {old new : Array Value}
    (hk : appendKind P argTypes = true) (h0 : argTypes[0]? = some st) (hu : P.underlying st = some (.slice elem)) (hd : P.info? elem = some d) (hz : d.zero = some z)
    (hs : s = .slice base sLen sCap) (hn : (Builtin.lenOf x).run P w = .ok n w) (hno : sCap < sLen + n) (hb0 : 0 < d.bytes) (hb : d.bytes < 2 ^ 30) (hlim : (sLen + n) * d.bytes < 2 ^ 40)
    (hold' : (Builtin.firstCells d.size sLen s).run P { w with drawn := w.drawn + 1 } = .ok old { w with drawn := w.drawn + 1 })
    (hnew' : (Builtin.firstCells d.size n x).run P { w with drawn := w.drawn + 1 } = .ok new { w with drawn := w.drawn + 1 }) :
    ∃ newCap, sLen + n ≤ newCap ∧ (Builtin.append_ argTypes ty #[s, x]).run P w =
      .ok (.slice (some ⟨w.heap.size, 0, none⟩) (sLen + n) newCap)
        { w with drawn := w.drawn + 1, heap := w.heap.push (.cells (old ++ new ++ Builtin.zeroCells z.cells (newCap - (sLen + n))) elem (0, 0)) } := by
  subst hs
  have hneed : sLen + n < 2 ^ 40 := Nat.lt_of_le_of_lt (Nat.le_mul_of_pos_right _ hb0) hlim
  have hcap := nextslicecap_le hno
  have h48 : ¬ (Builtin.nextslicecap (sLen + n) sCap * d.bytes > 2 ^ 48) := by
    have h1 : Builtin.nextslicecap (sLen + n) sCap * d.bytes ≤ (2 * (sLen + n) + 192) * d.bytes := Nat.mul_le_mul_right _ hcap
    have h2 : (2 * (sLen + n) + 192) * d.bytes = 2 * ((sLen + n) * d.bytes) + 192 * d.bytes := by rw [Nat.add_mul, Nat.mul_assoc]
    omega
  have hmax : ¬ (((sLen + n : Nat) : Int) > IntKind.i64.max ∧ ((false = true) ∨ d.bytes = 0)) := by
    rintro ⟨h1, h2 | h2⟩
    · cases h2
    · omega
  have hroom : ¬ (sLen + n ≤ sCap) := by omega
  have e0 : ¬ d.bytes = 0 := by omega
  have hforced : (Question.appendCap (sLen + n) sCap elem).forced = false := rfl
  refine ⟨(Question.appendCap (sLen + n) sCap elem).cut (w.tape w.drawn (.appendCap (sLen + n) sCap elem)), ?_, ?_⟩
  · simp only [Question.cut]; omega
  have hzr : ∀ w' : World, (zeroValue elem).run P w' = .ok z w' := fun w' => zero_run hd hz w'
  have body : ∀ zeros : Bool, zeros = false → True := fun _ _ => trivial
  unfold appendKind at hk
  cases h1 : argTypes[1]? with
  | none =>
    simp only [Builtin.append_, h0, h1, List.getElem?_toArray, List.getElem?_cons_zero, List.getElem?_cons_succ, Sem.run_bind, und_run hu, Result.andThen_ok, siz_run hd, Sem.run_pure, Bool.false_eq_true, if_false, hn,
      hroom, hmax, info_run hd, h48, run_choose, hforced, run_askRoom, hold', hnew', Bool.not_false, if_true, hzr, false_or, false_and, and_false, ite_false, ite_true, e0, or_self]
    simp only [newRow, run_newObj, Sem.run_bind, Result.andThen_ok, Sem.run_pure]
  | some t =>
    rw [h1] at hk
    simp only at hk
    cases hut : P.underlying t with
    | none => rw [hut] at hk; cases hk
    | some dd =>
      rw [hut] at hk
      have hm : ∀ k, dd ≠ .int k := by rintro k rfl; cases hk
      cases dd
      case int k => exact absurd rfl (hm k)
      all_goals
        simp only [Builtin.append_, h0, h1, List.getElem?_toArray, List.getElem?_cons_zero, List.getElem?_cons_succ, Sem.run_bind, und_run hu, und_run hut, Result.andThen_ok, siz_run hd, Sem.run_pure, Bool.false_eq_true, if_false, hn,
          hroom, hmax, info_run hd, h48, run_choose, hforced, run_askRoom, hold', hnew', Bool.not_false, if_true, hzr, false_or, false_and, and_false, ite_false, ite_true, e0, or_self]
        simp only [newRow, run_newObj, Sem.run_bind, Result.andThen_ok, Sem.run_pure]

end Go.Ab

/- AbOp6 -/
namespace Go.Ab
set_option linter.unusedVariables false
set_option linter.unusedSimpArgs false

/-- what append does when there is room -/
theorem append_room {P : Program} {w w₂ : World} {argTypes : Array TypeId} {st elem ty : TypeId} {d : TypeInfo} {s x : Value} {base : Option Addr} {sLen sCap n : Nat} {new : Array Value}
    (hk : appendKind P argTypes = true) (h0 : argTypes[0]? = some st) (hu : P.underlying st = some (.slice elem)) (hd : P.info? elem = some d)
    (hs : s = .slice base sLen sCap) (hn : (Builtin.lenOf x).run P w = .ok n w) (hroom : sLen + n ≤ sCap)
    (hnew : (Builtin.firstCells d.size n x).run P w = .ok new w)
    (hst : match base with | some a => (storeCells (a.add (sLen * d.size)) new.toList).run P w = .ok () w₂ | none => w₂ = w) :
    (Builtin.append_ argTypes ty #[s, x]).run P w = .ok (.slice base (sLen + n) sCap) w₂ := by
  subst hs
  unfold appendKind at hk
  cases h1 : argTypes[1]? with
  | none =>
    simp only [Builtin.append_, h0, h1, List.getElem?_toArray, List.getElem?_cons_zero, List.getElem?_cons_succ, Sem.run_bind, und_run hu, Result.andThen_ok, siz_run hd, Sem.run_pure, Bool.false_eq_true, if_false, hn,
      hroom, hnew, Bool.not_false, if_true]
    cases base with
    | none => simp only at hst; subst hst; simp
    | some a => simp only at hst; simp [hst]
  | some t =>
    rw [h1] at hk
    simp only at hk
    cases hut : P.underlying t with
    | none => rw [hut] at hk; cases hk
    | some dd =>
      rw [hut] at hk
      have hm : ∀ k, dd ≠ .int k := by rintro k rfl; cases hk
      cases dd
      case int k => exact absurd rfl (hm k)
      all_goals
        simp only [Builtin.append_, h0, h1, List.getElem?_toArray, List.getElem?_cons_zero, List.getElem?_cons_succ, Sem.run_bind, und_run hu, und_run hut, Result.andThen_ok, siz_run hd, Sem.run_pure, Bool.false_eq_true, if_false, hn,
          hroom, hnew, Bool.not_false, if_true]
        cases base with
        | none => simp only at hst; subst hst; simp
        | some a => simp only at hst; simp [hst]

theorem RW.of_heap {P : Program} {E : Ren} {h : AH} {w w' : World} (r : RW P E h w) (e : w'.heap = w.heap) : RW P E h w' where
  glob := r.glob
  dom k n hk := by rw [e]; exact r.dom k n hk
  sdom := r.sdom
  live k o s hk := by rw [e]; exact r.live k o s hk
  inj := r.inj
  frz b c hb := by rw [e]; exact r.frz b c hb
  icy := r.icy
  sep := r.sep

theorem Ext.of_heap {E E' : Ren} {w w₁ w' : World} (x : Ext E w₁ E' w') (e : w₁.heap = w.heap) (ho : w₁.os = w.os) (hu : w₁.output = w.output) (ht : w₁.tape = w.tape) (hd : w.drawn ≤ w₁.drawn) : Ext E w E' w' where
  le := x.le
  range k n hk := by rw [← e]; exact x.range k n hk
  size := by rw [← e]; exact x.size
  frame n hn hj := by rw [← e] at hn ⊢; exact x.frame n hn hj
  os := x.os.trans ho
  output := x.output.trans hu
  tape := x.tape.trans ht
  drawn := Nat.le_trans hd x.drawn
  ice n hn := by rw [← e]; exact x.ice n hn

/-- a new row made by append: it may be longer in the world -/
theorem RW.newSoft {P : Program} {E : Ren} {h : AH} {w : World} (r : RW P E h w) {c c' rest : Array Value} (e : TypeId) {C z : Nat} {lo hi : Nat} (hz : 0 < z) (hc : RA E c c') (hn : (c' ++ rest).size = C * z)
    (hf : (c' ++ rest).size ≤ lo ∨ hi ≤ lo) :
    ∃ E', RW P E' (h.push (.cells c e (0, 0)) (some z)) { w with heap := w.heap.push (.cells (c' ++ rest) e (lo, hi)) } ∧ Ext E w E' { w with heap := w.heap.push (.cells (c' ++ rest) e (lo, hi)) } ∧
      E'.at_ h.size = some w.heap.size ∧ E'.soft h.size = some (C, z) := by
  have le := Ren.le_add r w.heap.size (some (C, z))
  obtain ⟨a, b⟩ := r.push (o := .cells c e (0, 0)) (o' := .cells (c' ++ rest) e (lo, hi)) (some (C, z)) (.soft rfl hz hn (by simp [hc.1]) hf (fun i v v' hv hv' => by
    have hlt := (Array.getElem?_eq_some_iff.1 hv).1
    rw [Array.getElem?_append_left (hc.1 ▸ hlt)] at hv'
    exact (hc.2 i v v' hv hv').mono le))
  exact ⟨_, a, b, by simp [Ren.add], by simp [Ren.add]⟩

theorem zeroCells_size (z : Array Value) (n : Nat) : (Builtin.zeroCells z n).size = n * z.size := by simp [Builtin.zeroCells]

theorem opAppend_run {P : Program} {E : Ren} {h h' : AH} {w : World} (r : RW P E h w) {argTypes : Array TypeId} {ty : TypeId} {s x s' x' v : Value}
    (hh : opAppend P h argTypes s x = some (v, h')) (hs : RV E s s') (hx : RV E x x') :
    ∃ E' v' w', (Builtin.append_ argTypes ty #[s', x']).run P w = .ok v' w' ∧ RW P E' h' w' ∧ Ext E w E' w' ∧ RV E' v v' := by
  unfold opAppend at hh
  split at hh
  case isFalse => cases hh
  rename_i hk
  split at hh
  case h_2 => cases hh
  rename_i st h0
  split at hh
  case h_2 => cases hh
  rename_i elem hu
  split at hh
  case h_2 => cases hh
  rename_i d n hd hln
  split at hh
  case h_2 => cases hh
  rename_i new base sLen sCap hnew
  have hn := lenOf_run (P := P) hln hx w
  have hstub : ∀ a c, x = .slice (some a) 0 c → n = 0 := by
    rintro a c rfl; simp [lenOf?] at hln; exact hln.symm
  split at hh
  case isFalse => cases hh
  rename_i hnsz
  have hnew2 : ∀ w' : World, w'.heap = w.heap → ∃ l', (Builtin.firstCells d.size n x').run P w' = .ok l' w' ∧ RA E new l' := fun w' e => opFirst_run (r.of_heap e) hnew hx hstub
  split at hh
  · -- room
    rename_i hroom
    obtain ⟨new', g1, g2⟩ := hnew2 w rfl
    split at hh
    · -- no block
      cases hh
      cases hs
      exact ⟨E, _, w, append_room hk h0 hu hd rfl hn hroom g1 rfl, r, .refl E w, .nilSlice _ _⟩
    · rename_i a
      split at hh
      · -- nothing to add
        rename_i hz
        cases hh
        have he : new'.toList = [] := by
          have : new'.size = 0 := by rw [← g2.1, hnsz, hz]
          simpa using this
        have hst : ∀ a' : Addr, (storeCells (a'.add (sLen * d.size)) new'.toList).run P w = .ok () w := by
          intro a'; rw [he]; rfl
        cases hs with
        | slice hat hsf => exact ⟨E, _, w, append_room hk h0 hu hd rfl hn hroom g1 (hst _), r, .refl E w, .slice hat hsf⟩
        | softSlice hat hsf ho hc hle => exact ⟨E, _, w, append_room hk h0 hu hd rfl hn (Nat.le_trans hroom hle) g1 (hst _), r, .refl E w, .softSlice hat hsf ho hc hle⟩
        | stub hsf =>
          have : n = 0 := by omega
          subst this
          exact ⟨E, _, w, append_room hk h0 hu hd rfl hn (Nat.zero_le _) g1 (hst _), r, .refl E w, .stub hsf⟩
      · rename_i hz
        split at hh
        · cases hh
        · split at hh
          case h_2 => cases hh
          rename_i h2 hset
          cases hh
          cases hs with
          | slice hat hsf =>
            rw [add_off] at hset
            obtain ⟨_, w', q1, q2, q3, _⟩ := opSetCells_run r hset hat g2
            exact ⟨E, _, w', append_room hk h0 hu hd rfl hn hroom g1 (by simp only [add_off]; exact q1), q2, q3, .slice hat hsf⟩
          | softSlice hat hsf ho hc hle =>
            rw [add_off] at hset
            obtain ⟨_, w', q1, q2, q3, _⟩ := opSetCells_run r hset hat g2
            exact ⟨E, _, w', append_room hk h0 hu hd rfl hn (Nat.le_trans hroom hle) g1 (by simp only [add_off]; exact q1), q2, q3, .softSlice hat hsf ho hc hle⟩
          | stub hsf => exact absurd (by omega : n = 0) (fun e => hz (by simp [e]))
  · -- no room
    rename_i hroom
    split at hh
    case isFalse => cases hh
    rename_i hlim
    obtain ⟨hsz, hb0, hb, hlim, hzz⟩ := hlim
    obtain ⟨z, hz, hzs⟩ : ∃ z, d.zero = some z ∧ z.cells.size = d.size := by
      cases hzd : d.zero with
      | none => rw [hzd] at hzz; cases hzz
      | some z => rw [hzd] at hzz; exact ⟨z, rfl, by simpa using hzz⟩
    split at hh
    case h_2 => cases hh
    rename_i old hold
    split at hh
    case isFalse => cases hh
    rename_i hosz
    have rd : RW P E h { w with drawn := w.drawn + 1 } := r.of_heap rfl
    obtain ⟨old', o1, o2⟩ := opFirst_run rd hold hs (by rintro a c e; cases e; rfl)
    obtain ⟨new', n1, n2⟩ := opFirst_run rd hnew hx hstub
    have xt : ∀ {E' w'}, Ext E { w with drawn := w.drawn + 1 } E' w' → Ext E w E' w' := fun x => x.of_heap rfl rfl rfl rfl (Nat.le_succ _)
    have osz : old'.size = sLen * d.size := by rw [← o2.1, hosz]
    have nsz : new'.size = n * d.size := by rw [← n2.1, hnsz]
    have hra := o2.append n2
    have total : ∀ newCap, sLen + n ≤ newCap → (old' ++ new' ++ Builtin.zeroCells z.cells (newCap - (sLen + n))).size = newCap * d.size := by
      intro newCap hc
      rw [Array.size_append, Array.size_append, osz, nsz, zeroCells_size, hzs, ← Nat.add_mul, ← Nat.add_mul]
      congr 1
      omega
    -- a new row in the world
    have fresh : ∀ {base' : Option Addr} {cap' : Nat}, s' = .slice base' sLen cap' → cap' < sLen + n →
        ∃ newCap, sLen + n ≤ newCap ∧ (Builtin.append_ argTypes ty #[s', x']).run P w = .ok (.slice (some ⟨w.heap.size, 0, none⟩) (sLen + n) newCap)
          { w with drawn := w.drawn + 1, heap := w.heap.push (.cells (old' ++ new' ++ Builtin.zeroCells z.cells (newCap - (sLen + n))) elem (0, 0)) } := by
      intro base' cap' e hc
      exact append_new hk h0 hu hd hz e hn hc hb0 hb hlim o1 n1
    have put : ∀ {g : AH}, RW P E g { w with drawn := w.drawn + 1 } → g.size = h.size → ∀ newCap, sLen + n ≤ newCap → ∃ E', RW P E' (g.push (.cells (old ++ new) elem (0, 0)) (some d.size))
          { w with drawn := w.drawn + 1, heap := w.heap.push (.cells (old' ++ new' ++ Builtin.zeroCells z.cells (newCap - (sLen + n))) elem (0, 0)) } ∧
          Ext E w E' { w with drawn := w.drawn + 1, heap := w.heap.push (.cells (old' ++ new' ++ Builtin.zeroCells z.cells (newCap - (sLen + n))) elem (0, 0)) } ∧
          RV E' (.slice (some ⟨h.size, 0, none⟩) (sLen + n) (sLen + n)) (.slice (some ⟨w.heap.size, 0, none⟩) (sLen + n) newCap) := by
      intro g rg hg newCap hc
      obtain ⟨E', q1, q2, q3, q4⟩ := rg.newSoft (rest := Builtin.zeroCells z.cells (newCap - (sLen + n))) elem (lo := 0) (hi := 0) hsz hra (total newCap hc) (.inr (Nat.le_refl 0))
      rw [hg] at q3 q4
      exact ⟨E', q1, xt q2, .softSlice (i := 0) q3 q4 (by simp) (by simp) hc⟩
    split at hh
    · -- no block
      cases hh
      cases hs
      obtain ⟨newCap, hc, hrun⟩ := fresh rfl (by omega)
      obtain ⟨E', q1, q2, q3⟩ := put rd rfl newCap hc
      exact ⟨E', _, _, hrun, q1, q2, q3⟩
    · rename_i a
      split at hh
      · -- a row of just its size
        rename_i o hg
        cases hh
        obtain ⟨nn, oo, l1, l2, l3, l4⟩ := r.live _ _ _ hg
        have hsf := Option.map_eq_none_iff.1 l4.symm
        cases hs with
        | slice hat _ =>
          obtain ⟨newCap, hc, hrun⟩ := fresh rfl (by omega)
          obtain ⟨E', q1, q2, q3⟩ := put rd rfl newCap hc
          exact ⟨E', _, _, hrun, q1, q2, q3⟩
        | softSlice hat hs2 _ _ _ => rw [hs2] at hsf; cases hsf
        | stub hs2 => rw [hsf] at hs2; cases hs2
      · rename_i c0 e0 fz0 zz hg
        split at hh
        case isFalse => cases hh
        rename_i hcond
        obtain ⟨hfz0, rfl, rfl, ha0, hasp, hcap0, hone⟩ := hcond
        subst hfz0
        cases hh
        obtain ⟨nn, oo, l1, l2, l3, l4⟩ := r.live _ _ _ hg
        cases hs with
        | slice hat hs2 => rw [hs2] at l4; cases l4
        | stub hs2 => omega
        | softSlice hat hs2 ho hc hle =>
          rename_i b b' off cap' C s₀ i
          have hs0 : s₀ = d.size := by rw [hs2] at l4; simpa using l4.symm
          subst hs0
          simp only at ha0 hg
          rw [ha0] at ho
          have hi0 : i = 0 := by
            rcases Nat.mul_eq_zero.1 ho.symm with e | e
            · exact e
            · omega
          subst hi0
          rw [Nat.zero_add] at hc
          subst hc
          by_cases hroom' : sLen + n ≤ cap'
          · -- in its place
            obtain ⟨new2, g1, g2⟩ := hnew2 w rfl
            have hprefix : ∀ (i : Nat) v, old[i]? = some v → c0[i]? = some v := by
              intro i v hv
              unfold opFirst at hold
              simp only at hold
              split at hold
              · cases hold; simp at hv
              · unfold opCells at hold
                split at hold
                · cases hold
                · simp only [hg] at hold
                  split at hold
                  · cases hold
                    rw [Array.getElem?_extract] at hv
                    split at hv
                    · rw [ha0, Nat.zero_add] at hv; exact hv
                    · cases hv
                  · cases hold
            rw [hat] at l1
            obtain rfl : nn = b' := (Option.some.inj l1).symm
            have n2sz : new2.size = n * d.size := by rw [← g2.1, hnsz]
            cases l3 with
            | hard hs3 _ => rw [hs2] at hs3; cases hs3
            | soft hs3 hz3 hn3 hle3 hf3 hrel =>
              rename_i c' C' z' lo hi
              rw [hs2] at hs3; cases hs3
              have hfit : sLen * d.size + new2.toList.length ≤ c'.size := by
                rw [hn3, Array.length_toList, n2sz, ← Nat.add_mul]
                exact Nat.mul_le_mul_right _ hroom'
              have hst := storeCells_run (P := P) (off := 0 + sLen * d.size) new2.toList 0 c' w l2 (by omega) (by intro k hk; simp only; omega) (fun v' hv' => by
                obtain ⟨v, m1, m2⟩ := mem_of_ra g2 hv'
                rw [oneCell_rv m2]; exact List.all_eq_true.1 hone v m1)
              have hgrow := r.grow hg rfl hat hs2 (o := .cells (old ++ new) e0 (0, 0)) (o' := .cells (setFrom c' (0 + sLen * d.size) new2.toList) e0 (lo, hi)) (.soft rfl hz3 (by rw [setFrom_size]; exact hn3)
                (by rw [setFrom_size, Array.size_append, hosz, hnsz]; rw [Array.length_toList, n2sz] at hfit; exact hfit) (by rw [setFrom_size]; exact hf3) (fun i v v' hv hv' => by
                  have le := Ren.le_add r nn (some (cap', d.size))
                  refine RV.mono le ?_
                  rw [setFrom_get, Array.length_toList, n2sz, Nat.zero_add] at hv'
                  rw [Array.getElem?_append, hosz] at hv
                  split at hv
                  · rename_i hlt
                    rw [if_neg (by omega)] at hv'
                    exact hrel i v v' (hprefix i v hv) hv'
                  · rename_i hge
                    have hlt2 : i - sLen * d.size < new.size := (Array.getElem?_eq_some_iff.1 hv).1
                    rw [Array.length_toList, n2sz] at hfit
                    rw [if_pos ⟨by omega, by omega, by omega⟩, Array.getElem?_toList] at hv'
                    exact g2.2 _ v v' hv hv'))
              refine ⟨_, _, _, append_room (w₂ := _) hk h0 hu hd rfl hn hroom' g1 (by simp only [add_off, ha0]; exact hst), hgrow.1, hgrow.2, ?_⟩
              have e1 : (E.add h.size nn (some (cap', d.size))).at_ h.size = some nn := by simp [Ren.add]
              have e2 : (E.add h.size nn (some (cap', d.size))).soft h.size = some (cap', d.size) := by simp [Ren.add]
              rw [ha0]
              exact .softSlice (i := 0) e1 e2 (by simp) (Nat.zero_add _) hroom'
          · obtain ⟨newCap, hc, hrun⟩ := fresh rfl (by omega)
            obtain ⟨E', q1, q2, q3⟩ := put (rd.drop b) rfl newCap hc
            exact ⟨E', _, _, hrun, q1, q2, q3⟩
      · cases hh

end Go.Ab

/- AbOp7 -/
namespace Go.Ab
set_option linter.unusedVariables false
set_option linter.unusedSimpArgs false

def opCopy (P : Program) (h : AH) (argTypes : Array TypeId) (dst src : Value) : Option (Value × AH) :=
  match argTypes[0]? with
  | some dt => match P.underlying dt with
    | some (.slice elem) => match P.info? elem, dst, lenOf? src with
      | some d, .slice base dLen _, some sn => match opFirst h d.size (Nat.min sn dLen) src with
        | some cells => match base with
          | none => some (goInt (Nat.min sn dLen), h)
          | some a => if cells.size = 0 then some (goInt (Nat.min sn dLen), h) else if a.spot.isSome then none else if dLen = 0 then none else match opSetCells h a cells with
            | some h' => some (goInt (Nat.min sn dLen), h')
            | none => none
        | none => none
      | _, _, _ => none
    | _ => none
  | none => none

theorem opCopy_run {P : Program} {E : Ren} {h h' : AH} {w : World} (r : RW P E h w) {argTypes : Array TypeId} {ty : TypeId} {s x s' x' v : Value}
    (hh : opCopy P h argTypes s x = some (v, h')) (hs : RV E s s') (hx : RV E x x') :
    ∃ E' v' w', (Builtin.copy_ argTypes ty #[s', x']).run P w = .ok v' w' ∧ RW P E' h' w' ∧ Ext E w E' w' ∧ RV E' v v' := by
  unfold opCopy at hh
  split at hh
  case h_2 => cases hh
  rename_i dt h0
  split at hh
  case h_2 => cases hh
  rename_i elem hu
  split at hh
  case h_2 => cases hh
  rename_i d base dLen dCap sn hd hln
  split at hh
  case h_2 => cases hh
  rename_i cells hc
  have hn := lenOf_run (P := P) hln hx w
  have hstub : ∀ a c, x = .slice (some a) 0 c → Nat.min sn dLen = 0 := by
    rintro a c rfl; simp [lenOf?] at hln; subst hln; exact Nat.zero_min _
  obtain ⟨cells', g1, g2⟩ := opFirst_run r hc hx hstub
  have run : ∀ (base' : Option Addr) (cap' : Nat) (w₂ : World), (match base' with | some a => (storeCells a cells'.toList).run P w = .ok () w₂ | none => w₂ = w) →
      (Builtin.copy_ argTypes ty #[.slice base' dLen cap', x']).run P w = .ok (goInt (Nat.min sn dLen)) w₂ := by
    intro base' cap' w₂ hst
    simp only [Builtin.copy_, h0, List.getElem?_toArray, List.getElem?_cons_zero, List.getElem?_cons_succ, Sem.run_bind, und_run hu, Result.andThen_ok, hn, siz_run hd, g1]
    cases base' with
    | none => simp only at hst; subst hst; simp
    | some a => simp only at hst; simp [hst]
  split at hh
  · cases hh; cases hs
    exact ⟨E, _, w, run none _ w rfl, r, .refl E w, .int _ _⟩
  · rename_i a
    split at hh
    · rename_i hz
      cases hh
      have he : cells'.toList = [] := by
        have : cells'.size = 0 := by rw [← g2.1, hz]
        simpa using this
      cases hs <;> exact ⟨E, _, w, run (some _) _ w (by simp only [he]; rfl), r, .refl E w, .int _ _⟩
    · split at hh
      · cases hh
      · split at hh
        · cases hh
        · rename_i hd0
          split at hh
          case h_2 => cases hh
          rename_i h2 hset
          cases hh
          cases hs with
          | slice hat _ =>
            obtain ⟨_, w', q1, q2, q3, _⟩ := opSetCells_run r hset hat g2
            exact ⟨E, _, w', run (some _) _ w' q1, q2, q3, .int _ _⟩
          | softSlice hat _ _ _ _ =>
            obtain ⟨_, w', q1, q2, q3, _⟩ := opSetCells_run r hset hat g2
            exact ⟨E, _, w', run (some _) _ w' q1, q2, q3, .int _ _⟩
          | stub _ => exact absurd rfl hd0

def opLen (P : Program) (h : AH) (t : TypeId) (x : Value) : Option Value :=
  match P.underlying t, x with
  | some .string, .string s => some (goInt s.size)
  | some (.array n _), _ => some (goInt n)
  | some (.slice _), .slice _ n _ => some (goInt n)
  | some (.slice _), .func (.yield 0) _ l => some (goInt l.size)
  | some (.map _ _), .map none => some (goInt 0)
  | some (.map _ _), .map (some r) => match h.get r with
    | some (.map es _, _) => some (goInt es.size)
    | _ => none
  | _, _ => none

theorem getObj_run {P : Program} {w : World} {r : Nat} {o : Obj} (h : w.heap[r]? = some o) (hc : ∀ c e f, o ≠ .cells c e f) : (getObj r).run P w = .ok o w := by
  cases o <;> first | (exact absurd rfl (hc _ _ _)) | simp [getObj, Sem.run, h]

/-- what a live map is in the world -/
theorem RW.map {P : Program} {E : Ren} {h : AH} {w : World} (r : RW P E h w) {b b' : Nat} {es : Array MapEntry} {t : Nat} {s : Option Nat}
    (hb : h.get b = some (.map es t, s)) (hat : E.at_ b = some b') :
    ∃ es', w.heap[b']? = some (.map es' t) ∧ es.size = es'.size ∧ (∀ (i : Nat) x y, es[i]? = some x → es'[i]? = some y → RV E x.key y.key ∧ RV E x.val y.val ∧ x.born = y.born) := by
  obtain ⟨n, o', h1, h2, h3, h4⟩ := r.live b _ s hb
  rw [hat] at h1; cases h1
  cases h3 with
  | map _ hn hh => exact ⟨_, h2, hn, hh⟩

theorem opLen_run {P : Program} {E : Ren} {h : AH} {w : World} (r : RW P E h w) {argTypes : Array TypeId} {t ty : TypeId} {x x' v : Value} (h0 : argTypes[0]? = some t)
    (hh : opLen P h t x = some v) (hx : RV E x x') : (Builtin.len_ argTypes ty #[x']).run P w = .ok v w ∧ RV E v v := by
  unfold opLen at hh
  split at hh
  · rename_i s e
    cases hh; cases hx
    exact ⟨by simp [Builtin.len_, h0, und_run e], .int _ _⟩
  · rename_i n el e
    cases hh
    exact ⟨by simp [Builtin.len_, h0, und_run e], .int _ _⟩
  · rename_i el a n c e
    cases hh
    cases hx <;> exact ⟨by simp [Builtin.len_, h0, und_run e], .int _ _⟩
  · rename_i el z l e
    cases hh
    rcases vs_inv hx with ⟨rfl, a', cap', rfl⟩ | ⟨b', off, cap, s, c, rfl, h1, h2, h3, h4, h5, h6⟩ <;> exact ⟨by simp [Builtin.len_, h0, und_run e], .int _ _⟩
  · rename_i e
    cases hh; cases hx
    exact ⟨by simp [Builtin.len_, h0, und_run e], .int _ _⟩
  · rename_i k el b e
    split at hh
    · rename_i es t' s hg
      cases hh
      cases hx with
      | map hat =>
        obtain ⟨es', g1, g2, g3⟩ := r.map hg hat
        exact ⟨by simp [Builtin.len_, h0, und_run e, getObj_run g1 (by intro _ _ _ hc; cases hc), g2], .int _ _⟩
    · cases hh
  · cases hh

def intsOf : List Value → Option (List Int)
  | [] => some []
  | .int .u8 n :: l => (intsOf l).map (n :: ·)
  | _ => none

theorem intsOf_eq : ∀ {l : List Value} {ns : List Int}, intsOf l = some ns → l = ns.map (Value.int .u8) := by
  intro l
  induction l with
  | nil => intro ns h; cases h; rfl
  | cons v l ih =>
    intro ns h
    unfold intsOf at h
    split at h
    · rename_i e; cases e
    · rename_i n l' e
      cases e
      rw [Option.map_eq_some_iff] at h
      obtain ⟨m, h1, rfl⟩ := h
      rw [ih h1]; rfl
    · cases h

theorem RA.ints {E : Ren} {c c' : Array Value} (h : RA E c c') {ns : List Int} (hc : c.toList = ns.map (Value.int .u8)) : c' = (ns.map (Value.int .u8)).toArray := by
  have : c' = c := by
    refine Array.ext h.1.symm fun i h1 h2 => ?_
    have hr := h.2 i _ _ (Array.getElem?_eq_getElem h2) (Array.getElem?_eq_getElem h1)
    have : ∃ n, c[i] = .int .u8 n := by
      have hm : c[i] ∈ c.toList := by simp
      rw [hc, List.mem_map] at hm
      obtain ⟨n, _, hn⟩ := hm
      exact ⟨n, hn.symm⟩
    obtain ⟨n, hn⟩ := this
    rw [hn] at hr ⊢
    generalize c'[i] = u at hr ⊢
    cases hr
    rfl
  rw [this, ← hc]

def opB2S (h : AH) (x : Value) : Option Value :=
  match x with
  | .slice none _ _ => some (.string .empty)
  | .slice (some a) len _ => if len = 0 then some (.string .empty) else match opCells h a len with
    | some c => match intsOf c.toList with
      | some ns => some (.string (ns.foldl (fun r n => r.push (UInt8.ofNat n.toNat)) ByteArray.empty))
      | none => none
    | none => none
  | .func (.yield 0) _ l => match intsOf l.toList with
    | some ns => some (.string (ns.foldl (fun r n => r.push (UInt8.ofNat n.toNat)) ByteArray.empty))
    | none => none
  | _ => none

theorem flatC_ints : ∀ (ns : List Int), flatC (ns.map (Value.int .u8)) = ns.map (Value.int .u8) := by
  intro ns
  induction ns with
  | nil => rfl
  | cons n l ih =>
    have e : flatC (Value.int .u8 n :: l.map (Value.int .u8)) = [Value.int .u8 n] ++ flatC (l.map (Value.int .u8)) := rfl
    rw [List.map_cons, e, ih]; rfl

theorem opB2S_run {P : Program} {E : Ren} {h : AH} {w : World} (r : RW P E h w) {x x' v : Value} (hh : opB2S h x = some v) (hx : RV E x x') :
    (Conv.bytesToString x').run P w = .ok v w ∧ RV E v v := by
  unfold opB2S at hh
  split at hh
  · cases hh; cases hx
    exact ⟨by simp [Conv.bytesToString], .string _⟩
  · rename_i a len cap
    split at hh
    · rename_i hz
      subst hz
      cases hh
      have key : ∀ a' c', (Conv.bytesToString (.slice (some a') 0 c')).run P w = .ok (.string .empty) w := fun a' c' =>
        run_bytesToString w a' 0 c' [] (by simp [loadCells, loadCellsFrom])
      cases hx <;> exact ⟨key _ _, .string _⟩
    · rename_i hz
      split at hh
      case h_2 => cases hh
      rename_i c hc
      split at hh
      case h_2 => cases hh
      rename_i ns hns
      cases hh
      refine ⟨?_, .string _⟩
      cases hx with
      | slice hat _ =>
        obtain ⟨_, l', h1, h2⟩ := opCells_run r hc hat
        exact run_bytesToString w _ _ _ ns (by rw [← h2.ints (intsOf_eq hns)]; exact h1)
      | softSlice hat _ _ _ _ =>
        obtain ⟨_, l', h1, h2⟩ := opCells_run r hc hat
        exact run_bytesToString w _ _ _ ns (by rw [← h2.ints (intsOf_eq hns)]; exact h1)
      | stub _ => exact absurd rfl hz
  · rename_i z l
    split at hh
    case h_2 => cases hh
    rename_i ns hns
    cases hh
    have hl := intsOf_eq hns
    refine ⟨?_, .string _⟩
    rcases vs_inv hx with ⟨rfl, a', cap', rfl⟩ | ⟨b', off, cap, s, c, rfl, h1, h2, h3, h4, h5, h6⟩
    · have : ns = [] := by cases ns with
        | nil => rfl
        | cons => cases hl
      subst this
      exact run_bytesToString w a' 0 cap' [] (by simp [loadCells, loadCellsFrom])
    · have hsz : l.size = ns.length := by rw [← Array.length_toList, hl, List.length_map]
      by_cases h0 : ns = []
      · subst h0
        rw [hsz]
        exact run_bytesToString w _ 0 _ [] (by simp [loadCells, loadCellsFrom])
      · have hs1 : s = 1 := by
          obtain ⟨n, ns', rfl⟩ := List.exists_cons_of_ne_nil h0
          exact (h3 (.int .u8 n) (by rw [hl]; simp)).symm
        subst hs1
        obtain ⟨l', g1, g2⟩ := r.still (d := (ns.map (Value.int .u8)).toArray) h1 (by simp; omega) (fun i v v' hv hv' => h6 i v v' (by rw [hl, flatC_ints]; simpa using hv) hv') (n := l.size) (by simp; omega)
        have e : ((ns.map (Value.int .u8)).toArray).extract 0 l.size = (ns.map (Value.int .u8)).toArray := by rw [hsz]; apply Array.ext'; simp; exact List.take_of_length_le (by simp)
        rw [e] at g2
        exact run_bytesToString w _ _ _ ns (by rw [← g2.ints (ns := ns) (by simp)]; exact g1)
  · cases hh

def opS2B (h : AH) (elem : TypeId) (s : ByteArray) : Value × AH :=
  (.slice (some ⟨h.size, 0, none⟩) s.size s.size, h.push (.cells (s.data.map fun b => .int .u8 b.toNat) elem (0, 0)) (some 1))

theorem opS2B_run {P : Program} {E : Ren} {h : AH} {w : World} (r : RW P E h w) (elem : TypeId) (s : ByteArray) :
    ∃ E' v' w', (Conv.stringToBytes elem s).run P w = .ok v' w' ∧ RW P E' (opS2B h elem s).2 w' ∧ Ext E w E' w' ∧ RV E' (opS2B h elem s).1 v' := by
  have rd : RW P E h { w with drawn := w.drawn + 1 } := r.of_heap rfl
  have xt : ∀ {E' w'}, Ext E { w with drawn := w.drawn + 1 } E' w' → Ext E w E' w' := fun x => x.of_heap rfl rfl rfl rfl (Nat.le_succ _)
  have hcut : s.size ≤ (Question.appendCap s.size 0 elem).cut (w.tape w.drawn (.appendCap s.size 0 elem)) := by simp only [Question.cut]; omega
  generalize hcap : (Question.appendCap s.size 0 elem).cut (w.tape w.drawn (.appendCap s.size 0 elem)) = cap at hcut
  have hsz : (s.data.map (fun b => Value.int .u8 (b.toNat : Int)) ++ Array.replicate (cap - s.size) (Value.int .u8 0)).size = cap := by
    have : s.data.size = s.size := rfl
    simp [this]; omega
  obtain ⟨E', q1, q2, q3, q4⟩ := rd.newSoft (c := s.data.map fun b => .int .u8 b.toNat) (rest := Array.replicate (cap - s.size) (Value.int .u8 0)) elem (C := cap) (z := 1)
    (lo := cap) (hi := cap + 1) (by omega) (.of_plain fun v hv => by
      simp only [Array.toList_map, List.mem_map] at hv
      obtain ⟨b, _, rfl⟩ := hv
      exact .int _ _) (by rw [hsz, Nat.mul_one]) (.inl (by rw [hsz]; exact Nat.le_refl _))
  refine ⟨E', .slice (some ⟨w.heap.size, 0, none⟩) s.size cap, _, ?_, q1, xt q2, .softSlice (i := 0) q3 q4 (by simp) (by simp) hcut⟩
  have hforced : (Question.appendCap s.size 0 elem).forced = false := rfl
  simp only [Conv.stringToBytes, Sem.run_bind, run_choose, hforced, Bool.false_eq_true, if_false, Result.andThen_ok, hcap, newRow, run_newObj, Sem.run_pure, markStringish, run_shape]
  have hsh : World.shape? { w with drawn := w.drawn + 1, heap := w.heap.push (.cells (s.data.map (fun b => Value.int .u8 (b.toNat : Int)) ++ Array.replicate (cap - s.size) (Value.int .u8 0)) elem (0, 0)) } w.heap.size = some (elem, cap) := by
    simp only [World.shape?, Array.getElem?_push_size, hsz]
  simp only [hsh, run_freeze, Result.andThen_ok, Sem.run_pure, Sem.run_bind]
  congr 1
  unfold World.freeze
  rw [if_neg (by decide)]
  congr 1
  apply Array.ext_getElem?
  intro k
  rw [Array.getElem?_modify, Array.getElem?_push, Array.getElem?_push]
  by_cases hk : k = w.heap.size
  · subst hk; simp
  · simp [hk]
    exact fun e => absurd e.symm hk

end Go.Ab

/- AbOp8 -/
namespace Go.Ab
set_option linter.unusedVariables false
set_option linter.unusedSimpArgs false

def opEqPtr (P : Program) (h : AH) (t : TypeId) (x y : Value) : Option Bool :=
  match P.underlying t, x, y with
  | some (.pointer _), .pointer none, .pointer (some _) => some false
  | some (.pointer _), .pointer (some _), .pointer none => some false
  | some (.pointer e), .pointer (some a), .pointer (some b) => match P.info? e with
    | some d => if d.size = 0 ∨ a.spot.isSome ∨ b.spot.isSome then none else if a.block = b.block then some (a.off == b.off) else
      match h.get a.block, h.get b.block with
      | some (.cells _ _ (0, 0), none), some (.cells _ _ (0, 0), none) => some false
      | _, _ => none
    | none => none
  | some (.slice _), .slice none _ _, .slice (some _) _ _ => some false
  | some (.slice _), .slice (some _) _ _, .slice none _ _ => some false
  | some (.slice _), .slice none _ _, .func (.yield 0) _ _ => some false
  | some (.slice _), .func (.yield 0) _ _, .slice none _ _ => some false
  | some (.map _ _), .map none, .map (some _) => some false
  | some (.map _ _), .map (some _), .map none => some false
  | some (.func _ _ _), .nilFunc, .func (.func _) _ _ => some false
  | some (.func _ _ _), .func (.func _) _ _, .nilFunc => some false
  | some (.interface _), .nilIface, .iface _ _ => some false
  | some (.interface _), .iface _ _, .nilIface => some false
  | some (.interface _), .iface t _, .iface u _ => if t = u then none else some false
  | _, _, _ => none

/-- what a live row of just its size is in the world -/
theorem RW.hardCells {P : Program} {E : Ren} {h : AH} {w : World} (r : RW P E h w) {b b' : Nat} {c : Array Value} {e : TypeId}
    (hb : h.get b = some (.cells c e (0, 0), none)) (hat : E.at_ b = some b') : ∃ c', w.heap[b']? = some (.cells c' e (0, 0)) ∧ RA E c c' := by
  obtain ⟨n, o', h1, h2, h3, h4⟩ := r.live b _ _ hb
  rw [hat] at h1; cases h1
  have hs := Option.map_eq_none_iff.1 h4.symm
  cases h3 with
  | hard _ hh => exact ⟨_, h2, hh⟩
  | soft hs2 _ _ _ _ _ => rw [hs2] at hs; cases hs

theorem sameAddr_far {P : Program} {w : World} {a b oa ob : Nat} {ca cb : Array Value} {ea eb : TypeId} (hne : a ≠ b) (ha : w.heap[a]? = some (.cells ca ea (0, 0))) (hb : w.heap[b]? = some (.cells cb eb (0, 0))) :
    (sameAddr ⟨a, oa, none⟩ ⟨b, ob, none⟩).run P w = .ok false w := by
  have fa : ∀ o, w.frozen? ⟨a, o, none⟩ = false := fun o => by simp [World.frozen?, ha]
  have fb : ∀ o, w.frozen? ⟨b, o, none⟩ = false := fun o => by simp [World.frozen?, hb]
  have sa : w.shape? a = some (ea, ca.size) := by simp [World.shape?, ha]
  have sb : w.shape? b = some (eb, cb.size) := by simp [World.shape?, hb]
  have hbe : (a == b) = false := by simpa using hne
  simp [sameAddr, hbe, fa, fb, noView, viewAt, sa, sb, mayBeOne, stringish]

set_option maxHeartbeats 2000000 in
theorem opEqPtr_run {P : Program} {E : Ren} {h : AH} {w : World} (r : RW P E h w) {t : TypeId} {x y x' y' : Value} {b : Bool} (hh : opEqPtr P h t x y = some b) (hx : RV E x x') (hy : RV E y y') :
    (Op.equal t x' y').run P w = .ok b w := by
  have e1 : Op.maxDepth = 9999 + 1 := rfl
  unfold Op.equal
  rw [e1]
  generalize 9999 = n
  unfold opEqPtr at hh
  split at hh
  · rename_i e; cases hh; cases hx; cases hy; simp [Op.equalIn, und_run e]
  · rename_i e; cases hh; cases hx; cases hy; simp [Op.equalIn, und_run e]
  · rename_i el a c e
    split at hh
    case h_2 => cases hh
    rename_i d hd
    split at hh
    · cases hh
    · rename_i hsp
      cases hx with
      | ptr ha =>
        cases hy with
        | ptr hb =>
          have hz : d.size ≠ 0 := fun e => hsp (.inl e)
          simp only [Op.equalIn, Sem.run_bind, und_run e, Result.andThen_ok, siz_run hd, hz, ne_eq, not_false_eq_true, if_true]
          split at hh
          · rename_i hbe
            simp only at hbe
            subst hbe
            rw [ha] at hb; cases hb
            cases hh
            simp only [sameAddr, beq_self_eq_true, if_true, Sem.run_pure]
            congr 1
            rw [Bool.eq_iff_iff]
            simp
          · rename_i hbe
            simp only at hbe hh
            split at hh
            · rename_i c1 e1 c2 e2 g1 g2
              cases hh
              obtain ⟨c1', p1, _⟩ := r.hardCells g1 ha
              obtain ⟨c2', p2, _⟩ := r.hardCells g2 hb
              exact sameAddr_far (fun e => hbe (r.inj _ _ _ ha (e ▸ hb) (by rw [g1]; rfl) (by rw [g2]; rfl))) p1 p2
            · cases hh
  · rename_i e; cases hh; cases hx; cases hy <;> simp [Op.equalIn, und_run e]
  · rename_i e; cases hh; cases hy; cases hx <;> simp [Op.equalIn, und_run e]
  · rename_i e; cases hh; cases hx
    rcases vs_inv hy with ⟨rfl, a', cap', rfl⟩ | ⟨b', off, cap, s, c, rfl, h1, h2, h3, h4, h5, h6⟩ <;> simp [Op.equalIn, und_run e]
  · rename_i e; cases hh; cases hy
    rcases vs_inv hx with ⟨rfl, a', cap', rfl⟩ | ⟨b', off, cap, s, c, rfl, h1, h2, h3, h4, h5, h6⟩ <;> simp [Op.equalIn, und_run e]
  · rename_i e; cases hh; cases hx; cases hy; simp [Op.equalIn, und_run e]
  · rename_i e; cases hh; cases hx; cases hy; simp [Op.equalIn, und_run e]
  · rename_i e; cases hh; cases hx; cases hy; simp [Op.equalIn, und_run e]
  · rename_i e; cases hh; cases hx; cases hy; simp [Op.equalIn, und_run e]
  · rename_i e; cases hh; cases hx; cases hy; simp [Op.equalIn, und_run e]
  · rename_i e; cases hh; cases hx; cases hy; simp [Op.equalIn, und_run e]
  · rename_i e
    split at hh
    · cases hh
    · rename_i hne
      cases hh; cases hx; cases hy
      simp [Op.equalIn, und_run e, hne]
  · cases hh

end Go.Ab

/- AbOp9 -/
namespace Go.Ab
set_option linter.unusedVariables false
set_option linter.unusedSimpArgs false

/-- two lists of entries with the same keys, whose values lie alike -/
inductive Es (E : Ren) : List MapEntry → List MapEntry → Prop
  | nil : Es E [] []
  | cons {x y : MapEntry} {l k : List MapEntry} (hk : RV E x.key y.key) (hv : RV E x.val y.val) (hb : x.born = y.born) (t : Es E l k) : Es E (x :: l) (y :: k)

theorem es_of {E : Ren} : ∀ {l k : List MapEntry}, l.length = k.length → (∀ (i : Nat) x y, l[i]? = some x → k[i]? = some y → RV E x.key y.key ∧ RV E x.val y.val ∧ x.born = y.born) → Es E l k := by
  intro l
  induction l with
  | nil => intro k h _; cases k with
    | nil => exact .nil
    | cons => simp at h
  | cons x l ih =>
    intro k h hh
    cases k with
    | nil => simp at h
    | cons y k =>
      obtain ⟨a, b, c⟩ := hh 0 x y (by simp) (by simp)
      exact .cons a b c (ih (by simpa using h) fun i u v hu hv => hh (i + 1) u v (by simpa using hu) (by simpa using hv))

theorem es_get {E : Ren} {l k : List MapEntry} (h : Es E l k) : l.length = k.length ∧ ∀ (i : Nat) x y, l[i]? = some x → k[i]? = some y → RV E x.key y.key ∧ RV E x.val y.val ∧ x.born = y.born := by
  induction h with
  | nil => exact ⟨rfl, fun i x y hx => by simp at hx⟩
  | cons hk hv hb t ih =>
    refine ⟨by simp [ih.1], fun i x y hx hy => ?_⟩
    cases i with
    | zero => simp at hx hy; subst hx hy; exact ⟨hk, hv, hb⟩
    | succ i => exact ih.2 i x y (by simpa using hx) (by simpa using hy)

/-- the place of a key among plain keys -/
def findP (P : Program) (d : TypeDesc) (kt : TypeId) (k : Value) (es : List MapEntry) : Option (Option (Nat × Value)) :=
  Instr.findNow d k es 0

theorem sameNow_rv {E : Ren} {d : TypeDesc} {k x y : Value} {b : Bool} (h : Instr.sameNow d k x = some b) (hr : RV E x y) : Instr.sameNow d k y = some b := by
  cases hr <;> first
    | exact h
    | (unfold Instr.sameNow at h; split at h <;> first | (cases h; done) | (simp_all [VSl, FPv]; done))

theorem findNow_rv {E : Ren} {d : TypeDesc} {k : Value} : ∀ {l m : List MapEntry} (i : Nat) {r : Option (Nat × Value)}, Es E l m → Instr.findNow d k l i = some r →
    ∃ r', Instr.findNow d k m i = some r' ∧ ((r = none ∧ r' = none) ∨ ∃ j v v', r = some (j, v) ∧ r' = some (j, v') ∧ RV E v v') := by
  intro l
  induction l with
  | nil => intro m i r he h; cases he; cases h; exact ⟨none, rfl, .inl ⟨rfl, rfl⟩⟩
  | cons x l ih =>
    intro m i r he h
    cases he with
    | cons hk hv hb t =>
      rename_i y m
      simp only [Instr.findNow] at h ⊢
      cases hs : Instr.sameNow d k x.key with
      | none => rw [hs] at h; cases h
      | some b =>
        rw [hs] at h
        rw [sameNow_rv hs hk]
        cases b with
        | true => cases h; exact ⟨_, rfl, .inr ⟨i, x.val, y.val, rfl, rfl, hv⟩⟩
        | false => exact ih (i + 1) t h

theorem sameNow_vr {E : Ren} {d : TypeDesc} {k x y : Value} {b : Bool} (h : Instr.sameNow d k y = some b) (hr : RV E x y) : Instr.sameNow d k x = some b := by
  cases hr <;> first
    | exact h
    | (unfold Instr.sameNow at h; split at h <;> first | (cases h; done) | (simp_all; done))

theorem findNow_none {E : Ren} {d : TypeDesc} {k : Value} : ∀ {l m : List MapEntry} (i : Nat), Es E l m → Instr.findNow d k l i = none → Instr.findNow d k m i = none := by
  intro l
  induction l with
  | nil => intro m i he h; cases h
  | cons x l ih =>
    intro m i he h
    cases he with
    | cons hk hv hb t =>
      rename_i y m
      simp only [Instr.findNow] at h ⊢
      cases hs : Instr.sameNow d k x.key with
      | none =>
        cases hs' : Instr.sameNow d k y.key with
        | none => rfl
        | some b => rw [sameNow_vr hs' hk] at hs; cases hs
      | some b =>
        rw [hs] at h
        rw [sameNow_rv hs hk]
        cases b with
        | true => cases h
        | false => exact ih (i + 1) t h

/-- the place of a key among plain keys, compared as the type says -/
def findAskA (P : Program) (kt : TypeId) (k : Value) : List MapEntry → Nat → Option (Option (Nat × Value))
  | [], _ => some none
  | e :: es, i => if plain e.key then match flat P (Op.equal kt k e.key) with
    | some true => some (some (i, e.val))
    | some false => findAskA P kt k es (i + 1)
    | none => none
    else none

theorem findAskA_run {P : Program} {E : Ren} {kt : TypeId} {k : Value} {w : World} : ∀ {l m : List MapEntry} (i : Nat) {r : Option (Nat × Value)}, Es E l m → findAskA P kt k l i = some r →
    ∃ r', (Instr.findAsking kt k m i).run P w = .ok r' w ∧ ((r = none ∧ r' = none) ∨ ∃ j v v', r = some (j, v) ∧ r' = some (j, v') ∧ RV E v v') := by
  intro l
  induction l with
  | nil => intro m i r he h; cases he; cases h; exact ⟨none, rfl, .inl ⟨rfl, rfl⟩⟩
  | cons x l ih =>
    intro m i r he h
    cases he with
    | cons hk hv hb t =>
      rename_i y m
      simp only [findAskA] at h
      split at h
      case isFalse => cases h
      rename_i hp
      have ek := RV.eq_of_plain hp hk
      split at h
      · rename_i hf
        cases h
        exact ⟨some (i, y.val), by simp [Instr.findAsking, ek, flat_run w hf], .inr ⟨i, x.val, y.val, rfl, rfl, hv⟩⟩
      · rename_i hf
        obtain ⟨r', h1, h2⟩ := ih (i + 1) t h
        exact ⟨r', by simp [Instr.findAsking, ek, flat_run w hf, h1], h2⟩
      · cases h

/-- looks a key up: the key is plain -/
def opFind (P : Program) (kt : TypeId) (k : Value) (es : Array MapEntry) (empty : Bool) : Option (Option (Nat × Value)) :=
  match P.underlying kt with
  | some d => if plain k then match flat P (Instr.checkKey empty 10000 kt k) with
    | some () => match Instr.findNow d k es.toList 0 with
      | some r => some r
      | none => findAskA P kt k es.toList 0
    | none => none
    else none
  | none => none

theorem opFind_run {P : Program} {E : Ren} {kt : TypeId} {k k' : Value} {es es' : Array MapEntry} {e : Bool} {r : Option (Nat × Value)} (h : opFind P kt k es e = some r) (hk : RV E k k')
    (hn : es.size = es'.size) (hh : ∀ (i : Nat) x y, es[i]? = some x → es'[i]? = some y → RV E x.key y.key ∧ RV E x.val y.val ∧ x.born = y.born) (w : World) :
    k' = k ∧ (Instr.checkKey e 10000 kt k').run P w = .ok () w ∧ ∃ r', (Instr.findKey kt k' es'.toList).run P w = .ok r' w ∧
      ((r = none ∧ r' = none) ∨ ∃ j v v', r = some (j, v) ∧ r' = some (j, v') ∧ RV E v v') := by
  unfold opFind at h
  split at h
  case h_2 => cases h
  rename_i d hd
  split at h
  case isFalse => cases h
  rename_i hp
  split at h
  case h_2 => cases h
  rename_i hc
  have ek := RV.eq_of_plain hp hk
  subst ek
  refine ⟨rfl, flat_run w hc, ?_⟩
  have he : Es E es.toList es'.toList := es_of (by simpa using hn) fun i x y hx hy => hh i x y (by simpa using hx) (by simpa using hy)
  split at h
  · rename_i r0 hr0
    cases h
    obtain ⟨r', h1, h2⟩ := findNow_rv 0 he hr0
    exact ⟨r', by simp [Instr.findKey, und_run hd, h1], h2⟩
  · rename_i hr0
    obtain ⟨r', h1, h2⟩ := findAskA_run (w := w) 0 he h
    exact ⟨r', by simp [Instr.findKey, und_run hd, findNow_none 0 he hr0, h1], h2⟩

def opMakeMap (h : AH) : Value × AH := (.map (some h.size), h.push (.map #[] 0) none)

theorem opMakeMap_run {P : Program} {E : Ren} {h : AH} {w : World} (r : RW P E h w) (t : TypeId) :
    ∃ E' v' w', (Instr.makeMap t none).run P w = .ok v' w' ∧ RW P E' (opMakeMap h).2 w' ∧ Ext E w E' w' ∧ RV E' (opMakeMap h).1 v' := by
  obtain ⟨a, b⟩ := r.push (o := .map #[] 0) (o' := .map #[] 0) none (.map 0 rfl fun i x y hx => by simp at hx)
  exact ⟨_, .map (some w.heap.size), { w with heap := w.heap.push (.map #[] 0) }, by simp [Instr.makeMap, run_newObj], a, b, .map (by simp [Ren.add])⟩

def entriesOf (h : AH) (x : Value) : Option (Array MapEntry) :=
  match x with
  | .map none => some #[]
  | .map (some r) => match h.get r with
    | some (.map es _, _) => some es
    | _ => none
  | _ => none

def opLookup (P : Program) (h : AH) (t : TypeId) (x k : Value) (ok : Bool) : Option Value :=
  match P.underlying t with
  | some (.map kt elem) => match entriesOf h x with
    | some es => match opFind P kt k es es.isEmpty with
      | some (some (_, v)) => some (if ok then .tuple #[v, .bool true] else v)
      | some none => match P.info? elem with
        | some i => match i.zero with
          | some z => if plain z then some (if ok then .tuple #[z, .bool false] else z) else none
          | none => none
        | none => none
      | none => none
    | none => none
  | _ => none

theorem opLookup_run {P : Program} {E : Ren} {h : AH} {w : World} (r : RW P E h w) {t : TypeId} {x x' k k' v : Value} {ok : Bool} (hh : opLookup P h t x k ok = some v) (hx : RV E x x') (hk : RV E k k') :
    ∃ v', (Instr.lookup t x' k' ok).run P w = .ok v' w ∧ RV E v v' := by
  unfold opLookup at hh
  split at hh
  case h_2 => cases hh
  rename_i kt elem hu
  split at hh
  case h_2 => cases hh
  rename_i es hes
  have hent : ∃ es', ((x' = .map none ∧ es' = #[]) ∨ ∃ b' t', x' = .map (some b') ∧ w.heap[b']? = some (.map es' t')) ∧ es.size = es'.size ∧
      ∀ (i : Nat) x y, es[i]? = some x → es'[i]? = some y → RV E x.key y.key ∧ RV E x.val y.val ∧ x.born = y.born := by
    unfold entriesOf at hes
    split at hes
    · cases hes; cases hx
      exact ⟨#[], .inl ⟨rfl, rfl⟩, rfl, fun i x y hx => by simp at hx⟩
    · rename_i b
      split at hes
      · rename_i es0 t0 s0 hg
        cases hes
        cases hx with
        | map hat =>
          obtain ⟨es', g1, g2, g3⟩ := r.map hg hat
          exact ⟨es', .inr ⟨_, _, rfl, g1⟩, g2, g3⟩
      · cases hes
    · cases hes
  obtain ⟨es', h1, h2, h3⟩ := hent
  have run : ∀ (c : Sem Unit) (f : Sem (Option (Nat × Value))) (u' : Value), (Instr.checkKey es'.isEmpty 10000 kt k').run P w = .ok () w →
      (∀ v', (Instr.findKey kt k' es'.toList).run P w = .ok (some v') w → (Instr.lookup t x' k' ok).run P w = .ok (if ok then .tuple #[v'.2, .bool true] else v'.2) w) ∧
      (∀ z, (Instr.findKey kt k' es'.toList).run P w = .ok none w → (zeroValue elem).run P w = .ok z w → (Instr.lookup t x' k' ok).run P w = .ok (if ok then .tuple #[z, .bool false] else z) w) := by
    intro c f u' hck
    constructor
    · rintro ⟨j, v'⟩ hf
      rcases h1 with ⟨rfl, rfl⟩ | ⟨b', t', rfl, g1⟩
      · have hck' : (Instr.checkKey true 10000 kt k').run P w = .ok () w := hck
        have hf' : (Instr.findKey kt k' []).run P w = .ok (some (j, v')) w := hf
        simp [Instr.lookup, und_run hu, hck', hf']
      · simp [Instr.lookup, und_run hu, getObj_run g1 (by intro _ _ _ hc; cases hc), hck, hf]
    · intro z hf hz
      rcases h1 with ⟨rfl, rfl⟩ | ⟨b', t', rfl, g1⟩
      · have hck' : (Instr.checkKey true 10000 kt k').run P w = .ok () w := hck
        have hf' : (Instr.findKey kt k' []).run P w = .ok none w := hf
        simp [Instr.lookup, und_run hu, hck', hf', hz]
      · simp [Instr.lookup, und_run hu, getObj_run g1 (by intro _ _ _ hc; cases hc), hck, hf, hz]
  have hemp : es'.isEmpty = es.isEmpty := by simp [Array.isEmpty, h2]
  have two : ∀ {u u' : Value} {b : Bool}, RV E u u' → RV E (if ok then .tuple #[u, .bool b] else u) (if ok then .tuple #[u', .bool b] else u') := by
    intro u u' b hu
    cases ok
    · exact hu
    · exact RV.tup (RA.two hu (.bool b))
  split at hh
  · rename_i j u hf
    cases hh
    obtain ⟨rfl, c1, r', c2, c3⟩ := opFind_run (es' := es') hf hk h2 h3 w
    rw [← hemp] at c1
    rcases c3 with ⟨e, _⟩ | ⟨j', v, v', e1, rfl, hv⟩
    · cases e
    · cases e1
      exact ⟨_, (run (pure ()) (pure none) (.bool true) c1).1 _ c2, two hv⟩
  · rename_i hf
    obtain ⟨rfl, c1, r', c2, c3⟩ := opFind_run (es' := es') hf hk h2 h3 w
    rw [← hemp] at c1
    split at hh
    · rename_i i hi
      split at hh
      · rename_i z hz
        split at hh
        · rename_i hp
          cases hh
          rcases c3 with ⟨_, rfl⟩ | ⟨j', v, v', e1, _⟩
          · exact ⟨_, (run (pure ()) (pure none) (.bool true) c1).2 z c2 (zero_run hi hz w), two (RV.of_plain hp)⟩
          · cases e1
        · cases hh
      · cases hh
    · cases hh
  · cases hh

end Go.Ab

/- AbOp10 -/
namespace Go.Ab
set_option linter.unusedVariables false
set_option linter.unusedSimpArgs false

theorem setObj_run {P : Program} {w : World} {r : Nat} {o n : Obj} (h : w.heap[r]? = some o) (hc : ∀ c e f, o ≠ .cells c e f) : (setObj r n).run P w = .ok () { w with heap := w.heap.setIfInBounds r n } := by
  cases o <;> first | (exact absurd rfl (hc _ _ _)) | simp [setObj, Sem.run, h]

def opMapUpdate (P : Program) (h : AH) (t : TypeId) (x k v : Value) : Option AH :=
  match P.underlying t, x with
  | some (.map kt _), .map (some b) => match h.get b with
    | some (.map es clock, s) => match opFind P kt k es false with
      | some (some (i, _)) => match es[i]? with
        | some e => if plain e.key && Instr.sameBits 10000 e.key k then some (h.put b (some (.map (es.modify i fun e => { e with key := k, val := v }) clock, s))) else none
        | none => none
      | some none => some (h.put b (some (.map (es.push { key := k, val := v, born := clock }) (clock + 1), s)))
      | none => none
    | _ => none
  | _, _ => none

theorem opMapUpdate_run {P : Program} {E : Ren} {h h' : AH} {w : World} (r : RW P E h w) {t : TypeId} {x x' k k' v v' : Value} (hh : opMapUpdate P h t x k v = some h') (hx : RV E x x') (hk : RV E k k') (hv : RV E v v') :
    ∃ w', (Instr.mapUpdate t x' k' v').run P w = .ok () w' ∧ RW P E h' w' ∧ Ext E w E w' := by
  unfold opMapUpdate at hh
  split at hh
  case h_2 => cases hh
  rename_i kt elem b hu
  split at hh
  case h_2 => cases hh
  rename_i es clock s hg
  cases hx with
  | map hat =>
    obtain ⟨es', g1, g2, g3⟩ := r.map hg hat
    have hobj := getObj_run (P := P) g1 (by intro _ _ _ hc; cases hc)
    have hset := fun n => setObj_run (P := P) (n := n) g1 (by intro _ _ _ hc; cases hc)
    split at hh
    · rename_i i u hf
      obtain ⟨rfl, c1, r', c2, c3⟩ := opFind_run (es' := es') hf hk g2 g3 w
      rcases c3 with ⟨e, _⟩ | ⟨j', u0, u', e1, rfl, _⟩
      · cases e
      · cases e1
        split at hh
        · rename_i e he
          split at hh
          · rename_i hp
            simp only [Bool.and_eq_true] at hp
            cases hh
            have hlt : i < es'.size := by rw [← g2]; exact (Array.getElem?_eq_some_iff.1 he).1
            have he' : es'[i]? = some es'[i] := Array.getElem?_eq_getElem hlt
            obtain ⟨k1, _, _⟩ := g3 i e es'[i] he he'
            have hkey := RV.eq_of_plain hp.1 k1
            have hstay : (Instr.keyThatStays es'[i].key k').run P w = .ok k' w := by
              rw [hkey]; simp [Instr.keyThatStays, hp.2]
            refine ⟨_, ?_, r.put hg rfl hat (o' := .map (es'.modify i fun e => { e with key := k', val := v' }) clock) (.map clock (by simp [g2]) fun j a c ha hc => ?_)⟩
            · simp only [Instr.mapUpdate, Sem.run_bind, und_run hu, Result.andThen_ok, hobj, c1, c2, he', Option.map_some, Option.getD_some, hstay, hset]
            · rw [Array.getElem?_modify] at ha hc
              split at ha
              · rename_i e
                rw [if_pos e] at hc
                rw [Option.map_eq_some_iff] at ha hc
                obtain ⟨a0, a1, rfl⟩ := ha
                obtain ⟨c0, c1, rfl⟩ := hc
                exact ⟨hk, hv, (g3 j a0 c0 a1 c1).2.2⟩
              · rename_i e
                rw [if_neg e] at hc
                exact g3 j a c ha hc
          · cases hh
        · cases hh
    · rename_i hf
      obtain ⟨rfl, c1, r', c2, c3⟩ := opFind_run (es' := es') hf hk g2 g3 w
      rcases c3 with ⟨_, rfl⟩ | ⟨j', u0, u', e1, _⟩
      · cases hh
        refine ⟨_, ?_, r.put hg rfl hat (o' := .map (es'.push { key := k', val := v', born := clock }) (clock + 1)) (.map (clock + 1) (by simp [g2]) fun j a c ha hc => ?_)⟩
        · simp only [Instr.mapUpdate, Sem.run_bind, und_run hu, Result.andThen_ok, hobj, c1, c2, hset]
        · rw [Array.getElem?_push] at ha hc
          rw [← g2] at hc
          split at ha
          · rename_i e
            rw [if_pos e] at hc
            cases ha; cases hc
            exact ⟨hk, hv, rfl⟩
          · rename_i e
            rw [if_neg e] at hc
            exact g3 j a c ha hc
      · cases e1
    · cases hh

def opDelete (P : Program) (h : AH) (t : TypeId) (x k : Value) : Option AH :=
  match P.underlying t, x with
  | some (.map kt _), .map none => if plain k then match flat P (Instr.checkKey true 10000 kt k) with
    | some () => some h
    | none => none
    else none
  | some (.map kt _), .map (some b) => match h.get b with
    | some (.map es clock, s) => match opFind P kt k es es.isEmpty with
      | some (some (i, _)) => some (h.put b (some (.map (es.eraseIdxIfInBounds i) clock, s)))
      | some none => some (h.put b (some (.map es clock, s)))
      | none => none
    | _ => none
  | _, _ => none

end Go.Ab

/- AbOp11 -/
namespace Go.Ab
set_option linter.unusedVariables false
set_option linter.unusedSimpArgs false

def opRange (P : Program) (h : AH) (t : TypeId) (x : Value) : Option (Value × AH) :=
  let it (o : Obj) : Option (Value × AH) := some (.pointer (some ⟨h.size, 0, none⟩), h.push o none)
  match P.underlying t, x with
  | some .string, .string s => it (.stringIter s 0)
  | some (.map _ _), .map none => it (.mapIter none 0 #[] 0)
  | some (.map _ _), .map (some m) => match h.get m with
    | some (.map _ clock, _) => it (.mapIter (some m) clock #[] clock)
    | _ => none
  | _, _ => none

theorem opRange_run {P : Program} {E : Ren} {h h' : AH} {w : World} (r : RW P E h w) {t : TypeId} {x x' v : Value} (hh : opRange P h t x = some (v, h')) (hx : RV E x x') :
    ∃ E' v' w', (Instr.range t x').run P w = .ok v' w' ∧ RW P E' h' w' ∧ Ext E w E' w' ∧ RV E' v v' := by
  have fin : ∀ o o' : Obj, RO (E.add h.size w.heap.size none) none o o' → (Instr.range t x').run P w = .ok (.pointer (some ⟨w.heap.size, 0, none⟩)) { w with heap := w.heap.push o' } →
      some (Value.pointer (some ⟨h.size, 0, none⟩), h.push o none) = some (v, h') → ∃ E' v' w', (Instr.range t x').run P w = .ok v' w' ∧ RW P E' h' w' ∧ Ext E w E' w' ∧ RV E' v v' := by
    intro o o' ho hrun he
    cases he
    obtain ⟨a, b⟩ := r.push (o := o) (o' := o') none ho
    exact ⟨_, _, _, hrun, a, b, .ptr (by simp [Ren.add])⟩
  unfold opRange at hh
  simp only at hh
  split at hh
  · rename_i s e
    cases hx
    exact fin _ _ (.stringIter s 0) (by simp [Instr.range, und_run e, run_newObj]) hh
  · rename_i k el e
    cases hx
    exact fin _ _ (.mapIter0 0 #[] 0) (by simp [Instr.range, und_run e, run_newObj]) hh
  · rename_i k el m e
    split at hh
    · rename_i es clock s hg
      cases hx with
      | map hat =>
        obtain ⟨es', g1, g2, g3⟩ := r.map hg hat
        exact fin _ _ (.mapIter ((Ren.le_add r _ _).at_ _ _ hat) clock #[] clock) (by simp [Instr.range, und_run e, getObj_run g1 (by intro _ _ _ hc; cases hc), run_newObj]) hh
    · cases hh
  · cases hh

def overV : Value := .tuple #[.bool false]

/-- a step of a walk that can be but one -/
def opNext (P : Program) (h : AH) (it : Value) (isString : Bool) : Option (Value × AH) :=
  match it with
  | .pointer (some ⟨r, 0, none⟩) => match h.get r, isString with
    | some (.stringIter s pos, so), true =>
      if pos < s.size then some (.tuple #[.bool true, goInt pos, .int .i32 (Utf8.decode s pos).1], h.put r (some (.stringIter s (pos + (Utf8.decode s pos).2), so)))
      else some (overV, h)
    | some (.mapIter none _ _ _, so), false => some (overV, h)
    | some (.mapIter (some m) since seen last, so), false => match h.get m with
      | some (.map es clock, _) => if !seen.isEmpty && !es.isEmpty && es.all (·.born ≥ last) then none else
        match (es.filter fun e => !seen.contains e.born).toList with
        | [] => some (overV, h)
        | [e] => if e.born < since then some (.tuple #[.bool true, e.key, e.val], h.put r (some (.mapIter (some m) since (seen.push e.born) clock, so))) else none
        | _ => none
      | _ => none
    | _, _ => none
  | _ => none

/-- a step of a walk -/
def nextP (P : Program) (h : AH) (it : Value) (isString : Bool) (k : Value → AH → Prop) : Prop :=
  match it with
  | .pointer (some ⟨r, 0, none⟩) => match h.get r with
    | some (.mapIter (some m) since seen last, so) => isString = false ∧ match h.get m with
      | some (.map es clock, _) => (!seen.isEmpty && !es.isEmpty && es.all (·.born ≥ last)) = false ∧
        ((∀ e ∈ es.toList, seen.contains e.born = false → since ≤ e.born) → k overV h) ∧
        ∀ e ∈ es.toList, seen.contains e.born = false → k (.tuple #[.bool true, e.key, e.val]) (h.put r (some (.mapIter (some m) since (seen.push e.born) clock, so)))
      | _ => False
    | _ => match opNext P h it isString with
      | some r => k r.1 r.2
      | none => False
  | _ => False

theorem choose_run {P : Program} {w : World} {q : Question} : ∃ i w', (choose q).run P w = .ok i w' ∧ w'.heap = w.heap ∧ w'.os = w.os ∧ w'.output = w.output ∧ w'.tape = w.tape ∧ w.drawn ≤ w'.drawn ∧ ((q.forced = true ∧ i = 0) ∨ ∃ t, i = q.cut t) := by
  unfold choose
  simp only [Sem.run]
  by_cases h : q.forced = true
  · rw [if_pos h]
    exact ⟨0, w, rfl, rfl, rfl, rfl, rfl, Nat.le_refl _, .inl ⟨h, rfl⟩⟩
  · rw [if_neg h]
    exact ⟨_, _, rfl, rfl, rfl, rfl, rfl, Nat.le_succ _, .inr ⟨_, rfl⟩⟩

section
variable {P : Program} {E : Ren} {h : AH} {w : World}

theorem RW.iter (r : RW P E h w) {b b' : Nat} {m since last : Nat} {seen : Array Nat} {s : Option Nat} (hb : h.get b = some (.mapIter (some m) since seen last, s)) (hat : E.at_ b = some b') :
    ∃ m', E.at_ m = some m' ∧ w.heap[b']? = some (.mapIter (some m') since seen last) := by
  obtain ⟨n, o', h1, h2, h3, h4⟩ := r.live b _ s hb
  rw [hat] at h1; cases h1
  cases h3 with
  | mapIter h _ _ _ => exact ⟨_, h, h2⟩

theorem RW.iter0 (r : RW P E h w) {b b' : Nat} {since last : Nat} {seen : Array Nat} {s : Option Nat} (hb : h.get b = some (.mapIter none since seen last, s)) (hat : E.at_ b = some b') :
    w.heap[b']? = some (.mapIter none since seen last) := by
  obtain ⟨n, o', h1, h2, h3, h4⟩ := r.live b _ s hb
  rw [hat] at h1; cases h1
  cases h3 with
  | mapIter0 => exact h2

theorem RW.strIter (r : RW P E h w) {b b' : Nat} {x : ByteArray} {p : Nat} {s : Option Nat} (hb : h.get b = some (.stringIter x p, s)) (hat : E.at_ b = some b') :
    w.heap[b']? = some (.stringIter x p) := by
  obtain ⟨n, o', h1, h2, h3, h4⟩ := r.live b _ s hb
  rw [hat] at h1; cases h1
  cases h3 with
  | stringIter => exact h2

/-- a step of a walk over a map -/
theorem mapNext_run (r : RW P E h w) {b b' m since last : Nat} {seen : Array Nat} {so sm : Option Nat} {es : Array MapEntry} {clock : Nat} {t : TypeId} (hb : h.get b = some (.mapIter (some m) since seen last, so)) (hat : E.at_ b = some b')
    (hm : h.get m = some (.map es clock, sm)) (hok : (!seen.isEmpty && !es.isEmpty && es.all (·.born ≥ last)) = false) :
    ∃ v v' h' w', (Instr.next (.pointer (some ⟨b', 0, none⟩)) false t).run P w = .ok v' w' ∧ RW P E h' w' ∧ Ext E w E w' ∧ RV E v v' ∧
      ((v = overV ∧ h' = h ∧ ∀ e ∈ es.toList, seen.contains e.born = false → since ≤ e.born) ∨
       ∃ e ∈ es.toList, seen.contains e.born = false ∧ v = .tuple #[.bool true, e.key, e.val] ∧ h' = h.put b (some (.mapIter (some m) since (seen.push e.born) clock, so))) := by
  obtain ⟨m', hm', hw⟩ := r.iter hb hat
  obtain ⟨es', g1, g2, g3⟩ := r.map hm hm'
  have hob := getObj_run (P := P) hw (by intro _ _ _ hc; cases hc)
  have hom := getObj_run (P := P) g1 (by intro _ _ _ hc; cases hc)
  have hall : (es'.all (·.born ≥ last)) = es.all (·.born ≥ last) := by
    rw [Bool.eq_iff_iff, Array.all_eq_true, Array.all_eq_true]
    constructor
    · intro hh i hi
      have e1 := g3 i es[i] es'[i] (Array.getElem?_eq_getElem hi) (Array.getElem?_eq_getElem (g2 ▸ hi))
      have := hh i (g2 ▸ hi)
      rw [e1.2.2]; exact this
    · intro hh i hi
      have hi' : i < es.size := g2 ▸ hi
      have e1 := g3 i es[i] es'[i] (Array.getElem?_eq_getElem hi') (Array.getElem?_eq_getElem hi)
      have := hh i hi'
      rw [← e1.2.2]; exact this
  have hemp : es'.isEmpty = es.isEmpty := by simp [Array.isEmpty, g2]
  have hok' : (!seen.isEmpty && !es'.isEmpty && es'.all (·.born ≥ last)) = false := by rw [hall, hemp]; exact hok
  have mem : ∀ e' ∈ es'.toList, ∃ e ∈ es.toList, RV E e.key e'.key ∧ RV E e.val e'.val ∧ e.born = e'.born := by
    intro e' he
    obtain ⟨i, hi⟩ := List.mem_iff_getElem?.1 he
    rw [Array.getElem?_toList] at hi
    have hlt := (Array.getElem?_eq_some_iff.1 hi).1
    have hlt' : i < es.size := g2 ▸ hlt
    exact ⟨es[i], by simp, g3 i _ _ (Array.getElem?_eq_getElem hlt') hi⟩
  have mem' : ∀ e ∈ es.toList, ∃ e' ∈ es'.toList, e.born = e'.born := by
    intro e he
    obtain ⟨i, hi⟩ := List.mem_iff_getElem?.1 he
    rw [Array.getElem?_toList] at hi
    have hlt := (Array.getElem?_eq_some_iff.1 hi).1
    have hlt' : i < es'.size := g2 ▸ hlt
    exact ⟨es'[i], by simp, (g3 i _ _ hi (Array.getElem?_eq_getElem hlt')).2.2⟩
  generalize hold : (es'.filter fun e => !seen.contains e.born).filter (·.born < since) = old
  generalize hnew : (es'.filter fun e => !seen.contains e.born).filter (·.born ≥ since) = new
  generalize hcand : (if old.isEmpty then #[none] else #[]) ++ (old ++ new).map some = cand
  have hpos : 0 < cand.size := by
    rw [← hcand]
    cases ho : old.isEmpty with
    | true => simp; omega
    | false =>
      have : 0 < old.size := by
        cases hs : old.size with
        | zero => rw [Array.isEmpty, hs] at ho; simp at ho
        | succ n => omega
      simp; omega
  obtain ⟨i, w1, c1, c2, c3, c4, c5, c6, c7⟩ := choose_run (P := P) (w := w) (q := .mapNext cand.size)
  have hi : i < cand.size := by
    rcases c7 with ⟨_, rfl⟩ | ⟨t, rfl⟩
    · exact hpos
    · exact Nat.mod_lt _ hpos
  have hstep : ∀ (x : Option MapEntry), cand[i]? = some x → (Instr.next (.pointer (some ⟨b', 0, none⟩)) false t).run P w =
      (match x with | some e => (do setObj b' (.mapIter (some m') since (seen.push e.born) clock); pure (.tuple #[.bool true, e.key, e.val]) : Sem Value) | none => pure (.tuple #[.bool false])).run P w1 := by
    intro x hx
    unfold Instr.next
    simp only [Sem.run_bind, hob, Result.andThen_ok, hom]
    simp only [hok', Bool.false_eq_true, if_false]
    simp only [hold, hnew, hcand, Sem.run_bind, c1, Result.andThen_ok, hx]
    cases x <;> rfl
  obtain ⟨x, hx⟩ : ∃ x, cand[i]? = some x := ⟨cand[i], Array.getElem?_eq_getElem hi⟩
  have hmemx : x ∈ cand.toList := List.mem_of_getElem? (by simpa using hx)
  have hrun := hstep x hx
  have r1 : RW P E h w1 := r.of_heap c2
  have x1 : Ext E w E w1 := (Ext.refl E w1).of_heap c2 c3 c4 c5 c6
  cases x with
  | none =>
    refine ⟨overV, overV, h, w1, ?_, r1, x1, .tuple rfl fun i v v' a b => ?_, .inl ⟨rfl, rfl, fun e he hs => ?_⟩⟩
    · rw [hrun]; rfl
    · rw [a] at b; cases b
      match i with
      | 0 => simp at a; subst a; exact .bool _
      | _ + 1 => simp at a
    · rw [← hcand] at hmemx
      have hoe : old.isEmpty = true := by
        cases ho : old.isEmpty with
        | true => rfl
        | false => rw [ho] at hmemx; simp at hmemx
      obtain ⟨e', he', hb'⟩ := mem' e he
      apply Classical.byContradiction
      intro hlt
      have : e' ∈ old := by
        rw [← hold]
        simp only [Array.mem_filter, Bool.not_eq_true', decide_eq_true_eq]
        exact ⟨⟨by simpa using he', by rw [← hb']; exact hs⟩, by omega⟩
      rw [Array.isEmpty_iff] at hoe
      rw [hoe] at this
      simp at this
  | some e' =>
    rw [← hcand] at hmemx
    have hin : e' ∈ es'.toList ∧ seen.contains e'.born = false := by
      have : e' ∈ old ∨ e' ∈ new := by
        cases ho : old.isEmpty <;> (rw [ho] at hmemx; simpa using hmemx)
      rcases this with h1 | h1
      · rw [← hold] at h1
        simp only [Array.mem_filter, Bool.not_eq_true', decide_eq_true_eq] at h1
        exact ⟨by simpa using h1.1.1, h1.1.2⟩
      · rw [← hnew] at h1
        simp only [Array.mem_filter, Bool.not_eq_true', decide_eq_true_eq] at h1
        exact ⟨by simpa using h1.1.1, h1.1.2⟩
    obtain ⟨e, he, k1, k2, k3⟩ := mem e' hin.1
    have hw1 : w1.heap[b']? = some (.mapIter (some m') since seen last) := by rw [c2]; exact hw
    obtain ⟨rp, xp⟩ := r1.put hb rfl hat (o := .mapIter (some m) since (seen.push e.born) clock) (o' := .mapIter (some m') since (seen.push e.born) clock) (.mapIter hm' _ _ _)
    refine ⟨.tuple #[.bool true, e.key, e.val], .tuple #[.bool true, e'.key, e'.val], _, _, ?_, rp, x1.trans xp, .tuple rfl fun i v v' a b => ?_, .inr ⟨e, he, by rw [k3]; exact hin.2, rfl, rfl⟩⟩
    · rw [hrun]
      simp only [Sem.run_bind, setObj_run hw1 (by intro _ _ _ hc; cases hc), Result.andThen_ok, Sem.run_pure, k3]
    · match i with
      | 0 => simp at a b; subst a b; exact .bool _
      | 1 => simp at a b; subst a b; exact k1
      | 2 => simp at a b; subst a b; exact k2
      | _ + 3 => simp at a

theorem opNext_run (r : RW P E h w) {it it' v : Value} {isString : Bool} {t : TypeId} {h' : AH} (hh : opNext P h it isString = some (v, h')) (hi : RV E it it') :
    ∃ v' w', (Instr.next it' isString t).run P w = .ok v' w' ∧ RW P E h' w' ∧ Ext E w E w' ∧ RV E v v' := by
  have over : RV E overV overV := .tuple rfl fun i v v' a b => by
    rw [a] at b; cases b
    match i with
    | 0 => simp at a; subst a; exact .bool _
    | _ + 1 => simp at a
  unfold opNext at hh
  split at hh
  case h_2 => cases hh
  rename_i b
  cases hi with
  | ptr hat =>
    rename_i b'
    split at hh
    · rename_i s pos so hg
      have hw := r.strIter hg hat
      have hob := getObj_run (P := P) hw (by intro _ _ _ hc; cases hc)
      split at hh
      · rename_i hlt
        cases hh
        obtain ⟨rp, xp⟩ := r.put hg rfl hat (o := .stringIter s (pos + (Utf8.decode s pos).2)) (o' := .stringIter s (pos + (Utf8.decode s pos).2)) (.stringIter _ _)
        refine ⟨_, _, ?_, rp, xp, RV.of_plain (n := 4) (by simp [plainN, goInt])⟩
        simp [Instr.next, hob, hlt, setObj_run hw (by intro _ _ _ hc; cases hc)]
      · rename_i hge
        cases hh
        exact ⟨_, _, by simp [Instr.next, hob, hge]; rfl, r, .refl E w, over⟩
    · rename_i so hg
      have hw := r.iter0 hg hat
      have hob := getObj_run (P := P) hw (by intro _ _ _ hc; cases hc)
      cases hh
      exact ⟨_, _, by simp [Instr.next, hob]; rfl, r, .refl E w, over⟩
    · rename_i m since seen last so hg
      split at hh
      case h_2 => cases hh
      rename_i es clock sm hm
      split at hh
      · cases hh
      rename_i hok
      obtain ⟨v1, v', h1, w', q1, q2, q3, q4, q5⟩ := mapNext_run (t := t) r hg hat hm (by simpa using hok)
      have key : v1 = v ∧ h1 = h' := by
        have filt : ∀ e ∈ es.toList, seen.contains e.born = false → e ∈ (es.filter fun e => !seen.contains e.born).toList := fun e he hs => by
          simp only [Array.toList_filter, List.mem_filter]
          exact ⟨he, by rw [hs]; rfl⟩
        split at hh
        · rename_i hl
          cases hh
          rcases q5 with ⟨a, b, _⟩ | ⟨e, he, hs, _, _⟩
          · exact ⟨a, b⟩
          · have := filt e he hs
            rw [hl] at this
            cases this
        · rename_i e0 hl
          split at hh
          · rename_i hlt
            cases hh
            have he0 : e0 ∈ es.toList ∧ seen.contains e0.born = false := by
              have : e0 ∈ (es.filter fun e => !seen.contains e.born).toList := by rw [hl]; simp
              simpa [Array.toList_filter, List.mem_filter] using this
            rcases q5 with ⟨a, b, c⟩ | ⟨e, he, hs, e1, e2⟩
            · have := c e0 he0.1 he0.2
              omega
            · have := filt e he hs
              rw [hl] at this
              have : e = e0 := by simpa using this
              subst this
              exact ⟨e1, e2⟩
          · cases hh
        · cases hh
      obtain ⟨rfl, rfl⟩ := key
      exact ⟨v', w', q1, q2, q3, q4⟩
    · cases hh

theorem nextP_run (r : RW P E h w) {it it' : Value} {isString : Bool} {t : TypeId} {k : Value → AH → Prop} (hh : nextP P h it isString k) (hi : RV E it it') :
    ∃ v v' h' w', (Instr.next it' isString t).run P w = .ok v' w' ∧ RW P E h' w' ∧ Ext E w E w' ∧ RV E v v' ∧ k v h' := by
  unfold nextP at hh
  split at hh
  case h_2 => cases hh
  rename_i b
  split at hh
  · rename_i m since seen last so hg
    obtain ⟨rfl, hh⟩ := hh
    split at hh
    case h_2 => cases hh
    rename_i es clock sm hm
    obtain ⟨h1, h2, h3⟩ := hh
    cases hi with
    | ptr hat =>
      obtain ⟨v, v', h', w', q1, q2, q3, q4, q5⟩ := mapNext_run (t := t) r hg hat hm h1
      refine ⟨v, v', h', w', q1, q2, q3, q4, ?_⟩
      rcases q5 with ⟨rfl, rfl, c⟩ | ⟨e, he, hs, rfl, rfl⟩
      · exact h2 c
      · exact h3 e he hs
  · split at hh
    · rename_i x hx
      obtain ⟨v', w', q1, q2, q3, q4⟩ := opNext_run (t := t) r (v := x.1) (h' := x.2) hx hi
      exact ⟨x.1, v', x.2, w', q1, q2, q3, q4, hh⟩
    · cases hh

end

/-- the entry that a walk stands at -/
def opEntry (h : AH) (it : Value) : Option Value :=
  match it with
  | .pointer (some ⟨r, 0, none⟩) => match h.get r with
    | some (.mapIter (some m) _ seen stepped, _) => match seen.back?, h.get m with
      | some stamp, some (.map es clock, _) => if clock != stepped then none else
        match es.find? (·.born == stamp) with
        | some e => some (.tuple #[e.key, e.val])
        | none => none
      | _, _ => none
    | _ => none
  | _ => none

theorem find_born {E : Ren} {n : Nat} : ∀ {l k : List MapEntry}, Es E l k → ∀ {e : MapEntry}, l.find? (·.born == n) = some e → ∃ e', k.find? (·.born == n) = some e' ∧ RV E e.key e'.key ∧ RV E e.val e'.val := by
  intro l k h
  induction h with
  | nil => intro e he; cases he
  | @cons x y l k hk hv hb t ih =>
    intro e he
    rw [List.find?_cons] at he ⊢
    rw [← hb]
    cases hc : (x.born == n) with
    | true => rw [hc] at he; cases he; exact ⟨y, rfl, hk, hv⟩
    | false => rw [hc] at he; exact ih he

theorem opEntry_run {P : Program} {E : Ren} {h : AH} {w : World} (r : RW P E h w) {it it' v : Value} (hh : opEntry h it = some v) (hi : RV E it it') : ∃ v', (Instr.entry it').run P w = .ok v' w ∧ RV E v v' := by
  unfold opEntry at hh
  split at hh
  case h_2 => cases hh
  rename_i b
  split at hh
  case h_2 => cases hh
  rename_i m since seen stepped so hg
  split at hh
  case h_2 => cases hh
  rename_i stamp es clock sm hb hm
  split at hh
  · cases hh
  rename_i hcl
  split at hh
  case h_2 => cases hh
  rename_i e he
  cases hh
  cases hi with
  | ptr hat =>
    obtain ⟨m', hm', hw⟩ := r.iter hg hat
    obtain ⟨es', g1, g2, g3⟩ := r.map hm hm'
    have hob := getObj_run (P := P) hw (by intro _ _ _ hc; cases hc)
    have hom := getObj_run (P := P) g1 (by intro _ _ _ hc; cases hc)
    have hes : Es E es.toList es'.toList := es_of (by simpa using g2) fun i x y hx hy => g3 i x y (by simpa using hx) (by simpa using hy)
    rw [← Array.find?_toList] at he
    obtain ⟨e', k1, k2, k3⟩ := find_born hes he
    rw [Array.find?_toList] at k1
    refine ⟨.tuple #[e'.key, e'.val], ?_, RV.tup (RA.two k2 k3)⟩
    simp only [Instr.entry, Sem.run_bind, hob, Result.andThen_ok, hb, hom]
    simp only [hcl, if_false, Bool.false_eq_true, k1, Sem.run_pure]

theorem es_erase {E : Ren} {es es' : Array MapEntry} (hn : es.size = es'.size) (hh : ∀ (i : Nat) x y, es[i]? = some x → es'[i]? = some y → RV E x.key y.key ∧ RV E x.val y.val ∧ x.born = y.born) (i : Nat) :
    (es.eraseIdxIfInBounds i).size = (es'.eraseIdxIfInBounds i).size ∧ ∀ (j : Nat) x y, (es.eraseIdxIfInBounds i)[j]? = some x → (es'.eraseIdxIfInBounds i)[j]? = some y → RV E x.key y.key ∧ RV E x.val y.val ∧ x.born = y.born := by
  unfold Array.eraseIdxIfInBounds
  by_cases h : i < es.size
  · rw [dif_pos h, dif_pos (hn ▸ h)]
    refine ⟨by simp [hn], fun j x y hx hy => ?_⟩
    rw [Array.getElem?_eraseIdx] at hx hy
    split at hx
    · rename_i e; rw [if_pos e] at hy; exact hh j x y hx hy
    · rename_i e; rw [if_neg e] at hy; exact hh (j + 1) x y hx hy
  · rw [dif_neg h, dif_neg (hn ▸ h)]
    exact ⟨hn, hh⟩

theorem opDelete_run {P : Program} {E : Ren} {h h' : AH} {w : World} (r : RW P E h w) {ats : Array TypeId} {ty t : TypeId} {x x' k k' : Value} (h0 : ats[0]? = some t) (hh : opDelete P h t x k = some h') (hx : RV E x x') (hk : RV E k k') :
    ∃ w', (Builtin.delete_ ats ty #[x', k']).run P w = .ok (.tuple #[]) w' ∧ RW P E h' w' ∧ Ext E w E w' := by
  unfold opDelete at hh
  split at hh
  · rename_i kt el hu
    split at hh
    case isFalse => cases hh
    rename_i hp
    split at hh
    case h_2 => cases hh
    rename_i hc
    cases hh
    cases hx
    have ek := RV.eq_of_plain hp hk
    subst ek
    exact ⟨w, by simp [Builtin.delete_, h0, und_run hu, flat_run w hc], r, .refl E w⟩
  · rename_i kt el b hu
    split at hh
    case h_2 => cases hh
    rename_i es clock s hg
    cases hx with
    | map hat =>
      obtain ⟨es', g1, g2, g3⟩ := r.map hg hat
      have hobj := getObj_run (P := P) g1 (by intro _ _ _ hc; cases hc)
      have hset := fun n => setObj_run (P := P) (n := n) g1 (by intro _ _ _ hc; cases hc)
      have hemp : es'.isEmpty = es.isEmpty := by simp [Array.isEmpty, g2]
      split at hh
      · rename_i i u hf
        cases hh
        obtain ⟨rfl, c1, r', c2, c3⟩ := opFind_run (es' := es') hf hk g2 g3 w
        rw [← hemp] at c1
        rcases c3 with ⟨e, _⟩ | ⟨j', u0, u', e1, rfl, _⟩
        · cases e
        · cases e1
          obtain ⟨e1, e2⟩ := es_erase g2 g3 i
          refine ⟨_, ?_, r.put hg rfl hat (o' := .map (es'.eraseIdxIfInBounds i) clock) (.map clock e1 e2)⟩
          simp [Builtin.delete_, h0, und_run hu, hobj, c1, c2, hset]
      · rename_i hf
        cases hh
        obtain ⟨rfl, c1, r', c2, c3⟩ := opFind_run (es' := es') hf hk g2 g3 w
        rw [← hemp] at c1
        rcases c3 with ⟨_, rfl⟩ | ⟨j', u0, u', e1, _⟩
        · refine ⟨_, ?_, r.put hg rfl hat (o' := .map es' clock) (.map clock g2 g3)⟩
          simp [Builtin.delete_, h0, und_run hu, hobj, c1, c2, hset]
        · cases e1
      · cases hh
  · cases hh

/-- the entry of a key, made if there is none -/
def opMapEntry (P : Program) (h : AH) (t : TypeId) (x k : Value) : Option (Value × AH) :=
  match P.underlying t, x with
  | some (.map kt elem), .map (some b) => match h.get b with
    | some (.map es clock, s) => match opFind P kt k es false with
      | some (some (i, v)) => match es[i]? with
        | some e => if plain e.key && Instr.sameBits 10000 e.key k then some (.tuple #[v, goInt e.born], h.put b (some (.map (es.modify i fun e => { e with key := k }) clock, s))) else none
        | none => none
      | some none => match P.info? elem with
        | some inf => match inf.zero with
          | some z => if plain z then some (.tuple #[z, goInt clock], h.put b (some (.map (es.push { key := k, val := z, born := clock }) (clock + 1), s))) else none
          | none => none
        | none => none
      | none => none
    | _ => none
  | _, _ => none

theorem opMapEntry_run {P : Program} {E : Ren} {h h' : AH} {w : World} (r : RW P E h w) {t : TypeId} {x x' k k' v : Value} (hh : opMapEntry P h t x k = some (v, h')) (hx : RV E x x') (hk : RV E k k') :
    ∃ E' v' w', (Instr.mapEntry t x' k').run P w = .ok v' w' ∧ RW P E' h' w' ∧ Ext E w E' w' ∧ RV E' v v' := by
  unfold opMapEntry at hh
  split at hh
  case h_2 => cases hh
  rename_i kt elem b hu
  split at hh
  case h_2 => cases hh
  rename_i es clock s hg
  cases hx with
  | map hat =>
    obtain ⟨es', g1, g2, g3⟩ := r.map hg hat
    have hobj := getObj_run (P := P) g1 (by intro _ _ _ hc; cases hc)
    have hset := fun n => setObj_run (P := P) (n := n) g1 (by intro _ _ _ hc; cases hc)
    split at hh
    · rename_i i u hf
      obtain ⟨rfl, c1, r', c2, c3⟩ := opFind_run (es' := es') hf hk g2 g3 w
      rcases c3 with ⟨e, _⟩ | ⟨j', u0, u', e1, rfl, huv⟩
      · cases e
      · cases e1
        split at hh
        · rename_i e he
          split at hh
          · rename_i hp
            simp only [Bool.and_eq_true] at hp
            cases hh
            have hlt : i < es'.size := by rw [← g2]; exact (Array.getElem?_eq_some_iff.1 he).1
            have he' : es'[i]? = some es'[i] := Array.getElem?_eq_getElem hlt
            obtain ⟨k1, _, kb⟩ := g3 i e es'[i] he he'
            have hkey := RV.eq_of_plain hp.1 k1
            have hstay : (Instr.keyThatStays es'[i].key k').run P w = .ok k' w := by
              rw [hkey]; simp [Instr.keyThatStays, hp.2]
            obtain ⟨rp, xp⟩ := r.put hg rfl hat (o := .map (es.modify i fun e => { e with key := k' }) clock) (o' := .map (es'.modify i fun e => { e with key := k' }) clock) (.map clock (by simp [g2]) fun j a c ha hc => by
              rw [Array.getElem?_modify] at ha hc
              split at ha
              · rename_i e
                rw [if_pos e] at hc
                rw [Option.map_eq_some_iff] at ha hc
                obtain ⟨a0, a1, rfl⟩ := ha
                obtain ⟨c0, c1, rfl⟩ := hc
                exact ⟨hk, (g3 j a0 c0 a1 c1).2⟩
              · rename_i e
                rw [if_neg e] at hc
                exact g3 j a c ha hc)
            refine ⟨E, .tuple #[u', goInt e.born], _, ?_, rp, xp, RV.tup (RA.two huv (.int _ _))⟩
            simp only [Instr.mapEntry, Sem.run_bind, und_run hu, Result.andThen_ok, hobj, c1, c2, he', Option.map_some, Option.getD_some, hstay, hset, Sem.run_pure, kb]
          · cases hh
        · cases hh
    · rename_i hf
      obtain ⟨rfl, c1, r', c2, c3⟩ := opFind_run (es' := es') hf hk g2 g3 w
      split at hh
      · rename_i inf hi
        split at hh
        · rename_i z hz
          split at hh
          · rename_i hp
            cases hh
            rcases c3 with ⟨_, rfl⟩ | ⟨j', u0, u', e1, _⟩
            · obtain ⟨rp, xp⟩ := r.put hg rfl hat (o := .map (es.push { key := k', val := z, born := clock }) (clock + 1)) (o' := .map (es'.push { key := k', val := z, born := clock }) (clock + 1)) (.map (clock + 1) (by simp [g2]) fun j a c ha hc => by
                rw [Array.getElem?_push] at ha hc
                rw [← g2] at hc
                split at ha
                · rename_i e
                  rw [if_pos e] at hc
                  cases ha; cases hc
                  exact ⟨hk, RV.of_plain hp, rfl⟩
                · rename_i e
                  rw [if_neg e] at hc
                  exact g3 j a c ha hc)
              refine ⟨E, .tuple #[z, goInt clock], _, ?_, rp, xp, RV.tup (RA.two (RV.of_plain hp) (.int _ _))⟩
              simp only [Instr.mapEntry, Sem.run_bind, und_run hu, Result.andThen_ok, hobj, c1, c2, zero_run hi hz w, hset, Sem.run_pure]
            · cases e1
          · cases hh
        · cases hh
      · cases hh
    · cases hh

def opEntryStore (h : AH) (x stamp v : Value) : Option AH :=
  match x, stamp with
  | .map (some b), .int _ n => match h.get b with
    | some (.map es clock, s) => match es.findIdx? (fun e => (e.born : Int) == n) with
      | some i => some (h.put b (some (.map (es.modify i fun e => { e with val := v }) clock, s)))
      | none => none
    | _ => none
  | _, _ => none

theorem findBorn {E : Ren} {es es' : Array MapEntry} (hn : es.size = es'.size) (hh : ∀ (i : Nat) x y, es[i]? = some x → es'[i]? = some y → RV E x.key y.key ∧ RV E x.val y.val ∧ x.born = y.born) (n : Int) :
    es'.findIdx? (fun e => (e.born : Int) == n) = es.findIdx? (fun e => (e.born : Int) == n) := by
  have e : es'.toList.map (·.born) = es.toList.map (·.born) := by
    apply List.ext_getElem?
    intro i
    rw [List.getElem?_map, List.getElem?_map, Array.getElem?_toList, Array.getElem?_toList]
    by_cases hi : i < es.size
    · have h1 := Array.getElem?_eq_getElem hi
      have h2 := Array.getElem?_eq_getElem (hn ▸ hi : i < es'.size)
      rw [h1, h2]
      simp only [Option.map_some, (hh i _ _ h1 h2).2.2]
    · rw [Array.getElem?_eq_none (by omega), Array.getElem?_eq_none (by omega)]
  have arr : ∀ (xs : Array MapEntry) (p : MapEntry → Bool), xs.findIdx? p = xs.toList.findIdx? p := fun xs p => by
    cases xs; simp
  rw [arr, arr]
  have key : ∀ l : List MapEntry, l.findIdx? (fun e => (e.born : Int) == n) = (l.map (·.born)).findIdx? (fun b : Nat => ((b : Nat) : Int) == n) := by
    intro l
    rw [List.findIdx?_map]
    rfl
  rw [key, key, e]

theorem opEntryStore_run {P : Program} {E : Ren} {h h' : AH} {w : World} (r : RW P E h w) {t : TypeId} {x x' k k' v v' : Value} (hh : opEntryStore h x k v = some h') (hx : RV E x x') (hk : RV E k k') (hv : RV E v v') :
    ∃ w', (Instr.entryStore t x' k' v').run P w = .ok () w' ∧ RW P E h' w' ∧ Ext E w E w' := by
  unfold opEntryStore at hh
  split at hh
  case h_2 => cases hh
  rename_i b kk n
  split at hh
  case h_2 => cases hh
  rename_i es clock s hg
  split at hh
  case h_2 => cases hh
  rename_i i hi
  cases hh
  cases hk
  cases hx with
  | map hat =>
    obtain ⟨es', g1, g2, g3⟩ := r.map hg hat
    have hobj := getObj_run (P := P) g1 (by intro _ _ _ hc; cases hc)
    have hset := fun n => setObj_run (P := P) (n := n) g1 (by intro _ _ _ hc; cases hc)
    have hi' := (findBorn g2 g3 n).trans hi
    refine ⟨_, ?_, r.put hg rfl hat (o' := .map (es'.modify i fun e => { e with val := v' }) clock) (.map clock (by simp [g2]) fun j a c ha hc => ?_)⟩
    · simp [Instr.entryStore, hobj, asInt, asIntOf, hi', hset]
    · rw [Array.getElem?_modify] at ha hc
      split at ha
      · rename_i e
        rw [if_pos e] at hc
        rw [Option.map_eq_some_iff] at ha hc
        obtain ⟨a0, a1, rfl⟩ := ha
        obtain ⟨c0, c1, rfl⟩ := hc
        exact ⟨(g3 j a0 c0 a1 c1).1, hv, (g3 j a0 c0 a1 c1).2.2⟩
      · rename_i e
        rw [if_neg e] at hc
        exact g3 j a c ha hc

/-- a slice's elements, or a map's entries, are cleared -/
def opClear (P : Program) (h : AH) (t : TypeId) (x : Value) : Option AH :=
  match P.underlying t, x with
  | some (.slice e), .slice none _ _ => some h
  | some (.slice e), .slice (some a) n _ => if n = 0 then some h else if a.spot.isSome then none else match P.info? e with
    | some i => match i.zero, zerosOf P e n with
      | some z, some c => if i.size ≠ 0 ∧ z.cells.size = i.size then opSetCells h a c else none
      | _, _ => none
    | none => none
  | some (.map _ _), .map none => some h
  | some (.map _ _), .map (some b) => match h.get b with
    | some (.map es clock, s) => some (h.put b (some (.map #[] clock, s)))
    | _ => none
  | _, _ => none

theorem opClear_run {P : Program} {E : Ren} {h h' : AH} {w : World} (r : RW P E h w) {ats : Array TypeId} {ty t : TypeId} {x x' : Value} (h0 : ats[0]? = some t) (hh : opClear P h t x = some h') (hx : RV E x x') :
    ∃ w', (Builtin.clear_ ats ty #[x']).run P w = .ok (.tuple #[]) w' ∧ RW P E h' w' ∧ Ext E w E w' := by
  unfold opClear at hh
  split at hh
  · rename_i e hu
    cases hh; cases hx
    exact ⟨w, by simp [Builtin.clear_, h0, und_run hu], r, .refl E w⟩
  · rename_i e a n cap hu
    split at hh
    · rename_i hn
      subst hn
      cases hh
      cases hx <;> exact ⟨w, by simp [Builtin.clear_, h0, und_run hu], r, .refl E w⟩
    · rename_i hn
      split at hh
      · cases hh
      · split at hh
        case h_2 => cases hh
        rename_i i hi
        split at hh
        case h_2 => cases hh
        rename_i z c hz hc
        split at hh
        case isFalse => cases hh
        rename_i hs
        obtain ⟨i', e1, e2, e3⟩ := zerosOf_eq hc w
        rw [hi] at e1; cases e1
        have hne : n * i.size ≠ 0 := Nat.mul_ne_zero hn hs.1
        rcases e3 with ⟨e4, _⟩ | ⟨_, z', e4, e5⟩
        · exact absurd e4 hne
        have hz' : z' = z := by
          rw [zero_run hi hz w] at e4
          cases e4; rfl
        subst hz'
        have hrow : Builtin.zeroCells z'.cells n = c := by
          unfold Builtin.zeroCells
          rw [hs.2, ← e5, hs.2]
        have run : ∀ (a' : Addr) (cap' : Nat) (w₂ : World), (storeCells a' c.toList).run P w = .ok () w₂ → (Builtin.clear_ ats ty #[.slice (some a') n cap']).run P w = .ok (.tuple #[]) w₂ := by
          intro a' cap' w₂ hst
          simp only [Builtin.clear_, h0, List.getElem?_toArray, List.getElem?_cons_zero, Sem.run_bind, und_run hu, Result.andThen_ok]
          cases n with
          | zero => exact absurd rfl hn
          | succ n => simp [zero_run hi hz, hrow, hst]
        cases hx with
        | slice hat _ =>
          obtain ⟨_, w', q1, q2, q3, _⟩ := opSetCells_run r hh hat (e2 E)
          exact ⟨w', run _ _ w' q1, q2, q3⟩
        | softSlice hat _ _ _ _ =>
          obtain ⟨_, w', q1, q2, q3, _⟩ := opSetCells_run r hh hat (e2 E)
          exact ⟨w', run _ _ w' q1, q2, q3⟩
        | stub _ => exact absurd rfl hn
  · rename_i k e hu
    cases hh; cases hx
    exact ⟨w, by simp [Builtin.clear_, h0, und_run hu], r, .refl E w⟩
  · rename_i k e b hu
    split at hh
    case h_2 => cases hh
    rename_i es clock s hg
    cases hh
    cases hx with
    | map hat =>
      obtain ⟨es', g1, g2, g3⟩ := r.map hg hat
      have hobj := getObj_run (P := P) g1 (by intro _ _ _ hc; cases hc)
      have hset := fun n => setObj_run (P := P) (n := n) g1 (by intro _ _ _ hc; cases hc)
      refine ⟨_, ?_, r.put hg rfl hat (o' := .map #[] clock) (.map clock rfl fun i x y hx => by simp at hx)⟩
      simp [Builtin.clear_, h0, und_run hu, hobj, hset]
  · cases hh

end Go.Ab

/- AbOp12 -/
namespace Go.Ab
set_option linter.unusedVariables false
set_option linter.unusedSimpArgs false

/-- the bounds of a slice with a maximum: from, to, maximum -/
def bounds3? (cap : Nat) (low high max : Option Value) : Option (Nat × Nat × Nat) :=
  match high, max with
  | some v, some m => match bound? m cap with
    | some m => match bound? v m with
      | some g => match (match low with | some v => bound? v g | none => some 0) with
        | some l => some (l, g, m)
        | none => none
      | none => none
    | none => none
  | _, _ => none

theorem bounds3_run {P : Program} {len cap cap' : Nat} {low high max : Option Value} {l g m : Nat} (hb : bounds3? cap low high max = some (l, g, m)) (hc : cap ≤ cap') (b : Bool) (w : World) :
    (Instr.sliceBounds b len cap' low high max).run P w = .ok (l, g, m) w ∧ l ≤ g ∧ g ≤ m ∧ m ≤ cap := by
  unfold bounds3? at hb
  split at hb
  · rename_i v mv
    split at hb
    · rename_i m0 e1
      split at hb
      · rename_i g0 e2
        split at hb
        · rename_i l0 e3
          cases hb
          refine ⟨?_, ?_, bound_le e2, bound_le e1⟩
          · unfold Instr.sliceBounds
            cases low with
            | none => simp only at e3; cases e3; simp [bound_run e1 hc, bound_run e2 (Nat.le_refl _)]
            | some v => simp only at e3; simp [bound_run e1 hc, bound_run e2 (Nat.le_refl _), bound_run e3 (Nat.le_refl _)]
          · cases low with
            | none => simp only at e3; cases e3; exact Nat.zero_le _
            | some u => exact bound_le e3
        · cases hb
      · cases hb
    · cases hb
  · cases hb

theorem bounds3_ints {cap : Nat} {low high max : Option Value} {p : Nat × Nat × Nat} (hb : bounds3? cap low high max = some p) :
    (∀ v, low = some v → ∃ k n, v = .int k n) ∧ (∀ v, high = some v → ∃ k n, v = .int k n) ∧ (∀ v, max = some v → ∃ k n, v = .int k n) := by
  have key : ∀ {v : Value} {y n : Nat}, bound? v y = some n → ∃ k i, v = .int k i := by
    intro v y n h
    unfold bound? at h
    split at h
    · exact ⟨_, _, rfl⟩
    · cases h
  unfold bounds3? at hb
  split at hb
  · rename_i v mv
    split at hb
    · rename_i m0 e1
      split at hb
      · rename_i g0 e2
        split at hb
        · rename_i l0 e3
          refine ⟨?_, ?_, ?_⟩
          · rintro v rfl; exact key e3
          · intro v h; cases h; exact key e2
          · intro v h; cases h; exact key e1
        · cases hb
      · cases hb
    · cases hb
  · cases hb

/-- a slice, with a maximum, of a slice of a block of a fixed size, or of one whose elements stay -/
def opSlice3 (P : Program) (h : AH) (t : TypeId) (x : Value) (low high max : Option Value) : Option Value :=
  match P.underlying t, x with
  | some (.slice elem), .slice none len cap => match P.info? elem, bounds3? cap low high max with
    | some d, some (l, g, m) => some (.slice none (g - l) (m - l))
    | _, _ => none
  | some (.slice elem), .slice (some a) len cap => match P.info? elem, bounds3? cap low high max, h.get a.block with
    | some d, some (l, g, m), some (_, none) => if a.spot.isSome then none else
        some (.slice (some (if m = l then a else a.add (l * d.size))) (g - l) (m - l))
    | _, _, _ => none
  | some (.slice elem), .func (.yield 0) _ vs => match P.info? elem, bounds3? vs.size low high max with
    | some d, some (l, g, m) => if (vs[0]?).all (·.cells.size = d.size) then some (VSl ((vs.toList.drop l).take (g - l))) else none
    | _, _ => none
  | _, _ => none

theorem opSlice3_bounds {P : Program} {h : AH} {t : TypeId} {x : Value} {lo hi mx : Option Value} {v : Value} (hv : opSlice3 P h t x lo hi mx = some v) :
    (∀ v, lo = some v → ∃ k n, v = .int k n) ∧ (∀ v, hi = some v → ∃ k n, v = .int k n) ∧ (∀ v, mx = some v → ∃ k n, v = .int k n) := by
  unfold opSlice3 at hv
  split at hv
  · split at hv
    · rename_i hb; exact bounds3_ints hb
    · cases hv
  · split at hv
    · rename_i hb _; exact bounds3_ints hb
    · cases hv
  · split at hv
    · rename_i hb; exact bounds3_ints hb
    · cases hv
  · cases hv

theorem opSlice3_run {P : Program} {E : Ren} {h : AH} {w : World} (r : RW P E h w) {t : TypeId} {x x' : Value} {low high max : Option Value} {v : Value}
    (hv : opSlice3 P h t x low high max = some v) (hr : RV E x x') : ∃ v', (Instr.sliceAt t x' low high max).run P w = .ok v' w ∧ RV E v v' := by
  unfold opSlice3 at hv
  split at hv
  · rename_i elem len cap e
    split at hv
    · rename_i d l g m hd hb
      cases hv
      cases hr with
      | nilSlice _ _ =>
        simp only [Instr.sliceAt, Instr.slice, Sem.run_bind, und_run e, Result.andThen_ok, (bounds3_run hb (Nat.le_refl _) _ _).1, siz_run hd, Sem.run_pure]
        refine ⟨_, rfl, ?_⟩
        have : (if m = l then (none : Option Addr) else Option.map (fun x : Addr => x.add (l * d.size)) none) = none := by split <;> rfl
        rw [this]
        exact .nilSlice _ _
    · cases hv
  · rename_i elem a len cap e
    split at hv
    · rename_i d l g m o hd hb hg
      split at hv
      · cases hv
      · obtain ⟨n', o', h1, h2, h3, h4⟩ := r.live _ _ _ hg
        have hrun : ∀ (a' : Addr), (Instr.sliceAt t (.slice (some a') len cap) low high max).run P w =
            .ok (.slice (some (if m = l then a' else a'.add (l * d.size))) (g - l) (m - l)) w := by
          intro a'
          simp only [Instr.sliceAt, Instr.slice, Sem.run_bind, und_run e, Result.andThen_ok, (bounds3_run hb (Nat.le_refl _) _ _).1, siz_run hd, Sem.run_pure]
          by_cases e2 : m = l
          · simp [e2]
          · simp [e2]
        cases hr with
        | slice hat hs =>
          cases hv
          refine ⟨_, hrun _, ?_⟩
          rw [add_off, add_off]
          split
          · exact .slice hat hs
          · exact .slice hat hs
        | softSlice hat hs ho hc hle => rw [hs] at h4; cases h4
        | stub hs => rw [Option.isSome_iff_exists] at hs; obtain ⟨s, hs⟩ := hs; rw [hs] at h4; cases h4
    · cases hv
  · rename_i elem z vs e
    split at hv
    · rename_i d l g m hd hb
      split at hv
      · rename_i hsz
        cases hv
        obtain ⟨-, b1, b2, b3⟩ := bounds3_run (P := P) (len := 0) hb (Nat.le_refl _) true w
        have hrun : ∀ (a' : Addr) (cap' : Nat), vs.size ≤ cap' → (Instr.sliceAt t (.slice (some a') vs.size cap') low high max).run P w =
            .ok (.slice (some (if m = l then a' else a'.add (l * d.size))) (g - l) (m - l)) w := by
          intro a' cap' hc
          simp only [Instr.sliceAt, Instr.slice, Sem.run_bind, und_run e, Result.andThen_ok, (bounds3_run hb hc _ _).1, siz_run hd, Sem.run_pure]
          by_cases e2 : m = l
          · simp [e2]
          · simp [e2]
        rcases vs_inv hr with ⟨rfl, a', cap', rfl⟩ | ⟨b', off, cap, s, c, rfl, h1, h2, h3, h4, h5, h6⟩
        · refine ⟨_, hrun a' cap' (Nat.zero_le _), ?_⟩
          simp at b3
          have : g - l = 0 := by omega
          simp only [this, List.take_zero]
          exact .vs0
        · refine ⟨_, hrun _ _ h5, ?_⟩
          by_cases hgl : g - l = 0
          · simp only [hgl, List.take_zero]; exact .vs0
          · have hne : ¬ m = l := by omega
            rw [if_neg hne, add_off]
            have hv0 : vs[0]? = some vs[0] := Array.getElem?_eq_getElem (by omega)
            have hds : d.size = s := by
              rw [hv0] at hsz
              have e1 : vs[0].cells.size = d.size := by simpa using hsz
              rw [← e1]; exact h3 _ (by simp)
            rw [hds]
            exact RV.vsPart h1 h2 h3 (by simpa using h4) h6 (by simp; omega) (by omega)
      · cases hv
    · cases hv
  · cases hv

end Go.Ab

/- AbOp13 -/
namespace Go.Ab
set_option linter.unusedVariables false
set_option linter.unusedSimpArgs false

/-- unsafe.SliceData -/
def opSliceData (v : Value) : Option Value := match v with
  | .slice none _ _ => some (.pointer none)
  | .slice (some ⟨k, off, none⟩) _ cap => if cap ≠ 0 then some (.pointer (some ⟨k, off, none⟩)) else none
  | _ => none

theorem opSliceData_run {P : Program} {E : Ren} {w : World} {v v' u : Value} (ts : Array TypeId) (ty : TypeId) (hh : opSliceData v = some u) (hv : RV E v v') :
    ∃ u', (Builtin.unsafeSliceData_ ts ty #[v']).run P w = .ok u' w ∧ RV E u u' := by
  unfold opSliceData at hh
  split at hh
  · cases hh
    cases hv with
    | nilSlice => exact ⟨_, Lib.run_unsafeSliceData_nil w ts ty _ _, .nilPtr⟩
  · rename_i k off len cap
    split at hh
    · rename_i hc
      cases hh
      cases hv with
      | slice hat hs => exact ⟨_, Lib.run_unsafeSliceData_row w ts ty _ _ _ hc, .ptr hat⟩
      | softSlice hat hs ho hcc hle => exact ⟨_, Lib.run_unsafeSliceData_row w ts ty _ _ _ (by omega), .ptr hat⟩
      | stub hs => exact absurd rfl hc
    · cases hh
  · cases hh

theorem loadBytes_ints {P : Program} {w : World} : ∀ (ns : List Int) (a : Addr) (acc : ByteArray), (∀ j n, ns[j]? = some n → w.cell? (a.add j) = some (.int .u8 n)) →
    (loadBytes a acc ns.length).run P w = .ok (ns.foldl (fun r n => r.push (UInt8.ofNat n.toNat)) acc) w
  | [], a, acc, _ => by simp [loadBytes]
  | x :: l, a, acc, h => by
    have h0 : w.cell? a = some (.int .u8 x) := by
      have := h 0 x rfl
      simpa [Addr.add] using this
    have ih := loadBytes_ints (P := P) l (a.add 1) (acc.push (UInt8.ofNat x.toNat)) (fun j y hy => by
      have := h (j + 1) y (by simpa using hy)
      have e : (a.add 1).add j = a.add (j + 1) := by
        unfold Addr.add
        by_cases hj : j = 0
        · subst hj; simp
        · simp [hj]; omega
      rw [e]; exact this)
    simp only [List.length_cons, loadBytes, Sem.run_bind, run_load, h0, Result.andThen, List.foldl_cons]
    exact ih

/-- the bytes of the first cells of a row, which stay as they are from now on -/
def opUString (P : Program) (h : AH) (pt : TypeId) (p n : Value) : Option (Value × AH) := match p, n with
  | .pointer a, .int .i64 m => if m = 0 then some (.string .empty, h) else match a with
    | some ⟨k, 0, none⟩ => match h.get k with
      | some (.cells c e (0, 0), s) => match P.underlying pt with
        | some (.pointer e') => if e' = e ∧ P.cellsOf e = 1 ∧ 0 < m ∧ m ≤ c.size ∧ m ≤ 9223372036854775807 then match intsOf (c.toList.take m.toNat) with
          | some ns => some (.string (ns.foldl (fun r n => r.push (UInt8.ofNat n.toNat)) ByteArray.empty), h.put k (some (.cells c e (0, 1), s)))
          | none => none
          else none
        | _ => none
      | _ => none
    | _ => none
  | _, _ => none

/-- a row is frozen, and is said to stay as it is -/
theorem RW.freeze {P : Program} {E : Ren} {h : AH} {w : World} (r : RW P E h w) {k b : Nat} {c : Array Value} {e : TypeId} {s : Option Nat} (hk : h.get k = some (.cells c e (0, 0), s)) (hat : E.at_ k = some b) (n : Nat) :
    RW P E (h.put k (some (.cells c e (0, 1), s))) (w.freeze ⟨b, 0, none⟩ n) ∧ Ext E w E (w.freeze ⟨b, 0, none⟩ n) := by
  obtain ⟨cw, fz, g1, g2, g3, g4⟩ := r.cells hk hat
  have fin : ∀ fz', RW P E (h.put k (some (.cells c e (0, 1), s))) { w with heap := w.heap.setIfInBounds b (.cells cw e fz') } ∧ Ext E w E { w with heap := w.heap.setIfInBounds b (.cells cw e fz') } := fun fz' =>
    r.put hk rfl hat (.ice g2 g3)
  unfold World.freeze
  split
  · have := fin fz
    have e1 : w.heap.setIfInBounds b (.cells cw e fz) = w.heap := by
      apply Array.ext_getElem?
      intro i
      rw [Array.getElem?_setIfInBounds]
      split
      · rename_i hi; subst hi
        rw [g1]
        rw [if_pos (Array.getElem?_eq_some_iff.1 g1).1]
      · rfl
    rw [e1] at this
    exact this
  · obtain ⟨lo, hi⟩ := fz
    have := fin (if lo == hi then (0, 0 + n) else (min lo 0, max hi (0 + n)))
    have e1 : w.heap.setIfInBounds b (.cells cw e (if lo == hi then (0, 0 + n) else (min lo 0, max hi (0 + n)))) =
        w.heap.modify b fun
          | .cells c elem (lo, hi) => .cells c elem (if lo == hi then (0, 0 + n) else (min lo 0, max hi (0 + n)))
          | o => o := by
      apply Array.ext_getElem?
      intro i
      rw [Array.getElem?_setIfInBounds, Array.getElem?_modify]
      split
      · rename_i hi; subst hi
        rw [g1, if_pos (Array.getElem?_eq_some_iff.1 g1).1]
        rfl
      · rfl
    rw [e1] at this
    exact this

theorem opUString_run {P : Program} {E : Ren} {h h' : AH} {w : World} (r : RW P E h w) {pt it ty : TypeId} {p n p' n' v : Value} (hh : opUString P h pt p n = some (v, h')) (hp : RV E p p') (hn : RV E n n') :
    ∃ E' v' w', (Builtin.unsafeString_ #[pt, it] ty #[p', n']).run P w = .ok v' w' ∧ RW P E' h' w' ∧ Ext E w E' w' ∧ RV E' v v' := by
  unfold opUString at hh
  split at hh
  case h_2 => cases hh
  rename_i a m
  cases hn
  split at hh
  · rename_i hm
    subst hm
    cases hh
    have : ∃ a', p' = .pointer a' := by cases hp <;> exact ⟨_, rfl⟩
    obtain ⟨a', rfl⟩ := this
    exact ⟨E, _, w, Lib.run_unsafeString_none w pt it ty a', r, .refl E w, .string _⟩
  · rename_i hm
    split at hh
    case h_2 => cases hh
    rename_i k
    split at hh
    case h_2 => cases hh
    rename_i c e s hg
    split at hh
    case h_2 => cases hh
    rename_i e' h1
    split at hh
    case isFalse => cases hh
    rename_i hc
    obtain ⟨he, h2, h3, h4, h5⟩ := hc
    subst he
    split at hh
    case h_2 => cases hh
    rename_i ns hns
    cases hh
    cases hp with
    | ptr hat =>
      rename_i b
      obtain ⟨cw, fz, g1, g2, g3, g4⟩ := r.cells hg hat
      obtain ⟨q1, q2⟩ := r.freeze hg hat m.toNat
      refine ⟨E, _, _, ?_, q1, q2, .string _⟩
      have hnl : ns.length = m.toNat ∧ ∀ (j : Nat) (x : Int), ns[j]? = some x → c[j]? = some (Value.int .u8 x) := by
        have := intsOf_eq hns
        refine ⟨?_, fun j x hx => ?_⟩
        · have e1 := congrArg List.length this
          simp at e1
          omega
        · have e1 := congrArg (fun l => l[j]?) this
          simp only [List.getElem?_map, hx, Option.map_some, List.getElem?_take] at e1
          split at e1
          · rw [Array.getElem?_toList] at e1; exact e1
          · cases e1
      have hload := loadBytes_ints (P := P) (w := w) ns ⟨b, 0, none⟩ .empty (fun j x hx => by
        have h0 := hnl.2 j x hx
        have hlt : j < cw.size := by
          have := (Array.getElem?_eq_some_iff.1 h0).1
          omega
        have h6 := g3 j _ _ h0 (Array.getElem?_eq_getElem hlt)
        have h7 : cw[j]? = some (Value.int .u8 x) := by
          rw [Array.getElem?_eq_getElem hlt]
          generalize hz : cw[j] = z at h6
          cases h6
          rfl
        have ea : (⟨b, 0, none⟩ : Addr).add j = ⟨b, j, none⟩ := by
          unfold Addr.add
          by_cases hj : j = 0
          · subst hj; simp
          · simp [hj]
        rw [ea]
        simp [World.cell?, g1, h7])
      rw [hnl.1] at hload
      have hsh : w.shape? b = some (e', cw.size) := by simp [World.shape?, g1]
      have hlies := Lib.liesAt_bytes (P := P) h2 (cw.size / P.cellsOf e') m.toNat (by rw [h2]; simp; omega)
      have hdef : Builtin.unsafeString_ #[pt, it] ty #[.pointer (some ⟨b, 0, none⟩), .int .i64 m] =
          (do
            let n ← asInt (.int .i64 m)
            if n < 0 then runtimePanic (.error "unsafe.String: len out of range")
            if n > IntKind.i64.max then unsupported (.unsafePointer "String: a length above the largest int")
            if n = 0 then pure (.string .empty)
            else if ← variablesAt ⟨b, 0, none⟩ (← elemOf pt) n.toNat then do
              let s ← loadBytes ⟨b, 0, none⟩ .empty n.toNat
              Go.freeze ⟨b, 0, none⟩ n.toNat
              pure (.string s)
            else unsupported (.unsafePointer "String: not so many bytes at ptr")) := rfl
      rw [hdef]
      have hmax : IntKind.i64.max = 9223372036854775807 := rfl
      have hneg : ¬ m < 0 := by omega
      have hbig : ¬ (9223372036854775807 : Int) < m := by omega
      simp [asInt, asIntOf, hmax, hbig, hneg, hm, variablesAt, hsh, elemOf, run_underlying h1, hlies, hload]

/-- a map is copied -/
def opClone (h : AH) (v : Value) : Option (Value × AH) := match v with
  | .iface t (.map (some r)) => match h.get r with
    | some (.map es clock, _) => some (.iface t (.map (some h.size)), h.push (.map es clock) none)
    | _ => none
  | _ => none

theorem opClone_run {P : Program} {E : Ren} {h h' : AH} {w : World} (r : RW P E h w) {x x' v : Value} (hh : opClone h x = some (v, h')) (hx : RV E x x') :
    ∃ E' v' w', (Extern.MapsClone.clone #[x']).run P w = .ok v' w' ∧ RW P E' h' w' ∧ Ext E w E' w' ∧ RV E' v v' := by
  unfold opClone at hh
  split at hh
  case h_2 => cases hh
  rename_i t k
  split at hh
  case h_2 => cases hh
  rename_i es clock s hg
  cases hh
  cases hx with
  | iface _ hx =>
    cases hx with
    | map hat =>
      obtain ⟨n, o', h1, h2, h3, h4⟩ := r.live _ _ _ hg
      rw [hat] at h1; cases h1
      cases h3 with
      | map _ hn hm =>
        rename_i es'
        obtain ⟨a, b⟩ := r.push (o := .map es clock) (o' := .map es' clock) none (.map clock hn fun i x y p q => ⟨(hm i x y p q).1.mono (Ren.le_add r _ _), (hm i x y p q).2.1.mono (Ren.le_add r _ _), (hm i x y p q).2.2⟩)
        refine ⟨_, _, _, ?_, a, b, .iface t (.map (r' := w.heap.size) (by simp [Ren.add]))⟩
        have hdef : ∀ q : Nat, Extern.MapsClone.clone #[.iface t (.map (some q))] = (do
            let .map entries clock ← getObj q | stuck "maps.clone: a map expected"
            pure (.iface t (.map (some (← newObj (.map entries clock)))))) := fun _ => rfl
        rw [hdef]
        simp [getObj_run h2 (by intro _ _ _ hc; cases hc), run_newObj]

/-- pointers to unsafe pointers and back (of rows of a fixed size) -/
def opUnsafe (P : Program) (h : AH) (s d : TypeId) (v : Value) : Option Value := match v with
  | .pointer (some ⟨k, off, none⟩) => match h.get k with
    | some (.cells c e (0, 0), none) => match P.underlying s, P.underlying d with
      | some (.pointer t), some .unsafePointer => match P.info? t with
        | some i => if off < c.size ∧ i.size ≠ 0 then some v else none
        | none => none
      | some .unsafePointer, some (.pointer u) => match P.info? u with
        | some i => if i.size ≠ 0 ∧ liesAt P P.depth e (c.size / P.cellsOf e) off u 1 = true then some v else none
        | none => none
      | _, _ => none
    | _ => none
  | _ => none

theorem opUnsafe_run {P : Program} {E : Ren} {h : AH} {w : World} (r : RW P E h w) {s d : TypeId} {x x' v : Value} (hh : opUnsafe P h s d x = some v) (hx : RV E x x') :
    ∃ v', (convert s d x').run P w = .ok v' w ∧ RV E v v' := by
  unfold opUnsafe at hh
  split at hh
  case h_2 => cases hh
  rename_i k off
  split at hh
  case h_2 => cases hh
  rename_i c e hg
  cases hx with
  | ptr hat =>
    rename_i b
    obtain ⟨n, o', h1, h2, h3, h4⟩ := r.live _ _ _ hg
    rw [hat] at h1; cases h1
    have hso : E.soft k = none := by
      cases hs : E.soft k with
      | none => rfl
      | some _ => rw [hs] at h4; cases h4
    rw [hso] at h3
    cases h3 with
    | soft hs => cases hs
    | hard hs hra =>
      rename_i cw
      have hsh : w.shape? b = some (e, cw.size) := by simp [World.shape?, h2]
      split at hh
      · rename_i t h5 h6
        split at hh
        case h_2 => cases hh
        rename_i i hi
        split at hh
        case isFalse => cases hh
        rename_i hc
        cases hh
        refine ⟨_, ?_, .ptr hat⟩
        have e1 : (convert s d (.pointer (some ⟨b, off, none⟩))).run P w = (Conv.unsafePointer s d (.pointer (some ⟨b, off, none⟩))).run P w := by
          unfold convert
          simp [run_underlying h5, run_underlying h6]
        rw [e1]
        have hlt : ¬ cw.size ≤ off := by rw [← hra.1]; omega
        unfold Conv.unsafePointer
        simp [run_underlying h5, run_underlying h6, Conv.seenAt, viewAt, hsh, cellsIn, hlt, sizeOf, typeInfo, hi, hc.2]
      · rename_i u h5 h6
        split at hh
        case h_2 => cases hh
        rename_i i hi
        split at hh
        case isFalse => cases hh
        rename_i hc
        cases hh
        refine ⟨_, ?_, .ptr hat⟩
        have e1 : (convert s d (.pointer (some ⟨b, off, none⟩))).run P w = (Conv.unsafePointer s d (.pointer (some ⟨b, off, none⟩))).run P w := by
          unfold convert
          simp [run_underlying h5, run_underlying h6]
        rw [e1]
        have hl := hc.2
        rw [hra.1] at hl
        unfold Conv.unsafePointer
        simp [run_underlying h5, run_underlying h6, Conv.seenAt, viewAt, hsh, variablesAt, hl, sizeOf, typeInfo, hi, hc.1]
      · cases hh

end Go.Ab

/- AbEval -/
namespace Go.Ab
set_option linter.unusedVariables false
set_option linter.unusedSimpArgs false

inductive Out where
  | val (v : Value) (h : AH)
  | unit (h : AH)
  | enter (f : FuncId) (args : Array Value) (h : AH)

def valH (h : AH) (v : Option Value) : Option Out := match v with | some v => some (.val v h) | none => none
def valP (v : Option (Value × AH)) : Option Out := match v with | some (v, h) => some (.val v h) | none => none

/-- a list of operands -/
def listOf (ρ : Operand → Option Value) : List Operand → Option (List Value)
  | [] => some []
  | x :: l => match ρ x, listOf ρ l with
    | some v, some vs => some (v :: vs)
    | _, _ => none

def partsOf (ρ : Operand → Option Value) : List (Nat × Operand) → Option (List (Nat × Value))
  | [] => some []
  | (i, x) :: l => match ρ x, partsOf ρ l with
    | some v, some vs => some ((i, v) :: vs)
    | _, _ => none

def optOf (ρ : Operand → Option Value) : Option Operand → Option (Option Value)
  | none => some none
  | some x => (ρ x).map some

/-- a plain result of what neither heap nor tape is asked for -/
def flatV (P : Program) (m : Sem Value) : Option Value := match flat P m with | some v => if plain v then some v else none | none => none

/-- functions without a body that are not of plain data alone -/
def isExt (fn : Func) : Bool := (fn.name == "maps.clone" || fn.name == "internal/abi.NoEscape") && (Extern.findNext fn).isNone
def extO (n : String) (args : List Value) (h : AH) : Option (Value × AH) := match args with
  | [x] => if n == "maps.clone" then opClone h x else if n == "internal/abi.NoEscape" then some (x, h) else none
  | _ => none

/-- a function with a body is entered -/
def enterOf (P : Program) (f : FuncId) (args : List Value) (h : AH) : Option Out :=
  match P.funcs[f]? with
  | some fn => if fn.name == "runtime.NumGoroutine" then none else if fn.body.isNone then
      (if isExt fn then valP (extO fn.name args h) else if args.all (plainN 12) then match flat P (callFunc f args.toArray) with
        | some (.value v) => if plain v then some (.val v h) else none
        | _ => none
      else none)
    else some (.enter f args.toArray h)
  | none => none

def methodOf (P : Program) (t : TypeId) (v : Value) (name : String) : Option (FuncId × Value) :=
  match P.info? t with
  | some i => match i.methods.find? (·.name == name) with
    | some m => if m.path.isEmpty then match m.func with
      | some (f, true) => match P.underlying t with
        | some (.pointer _) => some (f, v)
        | _ => none
      | some (f, false) => match P.underlying t with
        | some (.pointer _) | none => none
        | some _ => some (f, v)
      | none => none
      else none
    | none => none
  | none => none

/-- a method of a value that is there -/
def nilMeth (P : Program) : Value → Bool
  | .func (.method n) f _ => match (f[0]? : Option Value) with
    | some (.iface t v) => match P.info? t with
      | some i => match i.methods.find? (·.name == n) with
        | some m => m.path.isEmpty && match m.func with
          | some (_, true) => true
          | some (_, false) => match P.underlying t with
            | some (.pointer _) => (match v with | .pointer (some _) => true | _ => false)
            | some _ => true
            | none => false
          | none => false
        | none => false
      | none => false
    | _ => false
  | _ => false

def nilChecked : Value → Bool
  | .pointer (some _) | .iface _ _ | .func (.func _) _ _ | .func (.yield 1) _ _ => true
  | _ => false

def absCall (P : Program) (ρ : Operand → Option Value) (c : Call) (ty : TypeId) (h : AH) : Option Out :=
  match listOf ρ c.args.toList with
  | none => none
  | some args => match c.callee with
    | .builtin .append => match args with
      | [s, x] => valP (opAppend P h c.argTypes s x)
      | _ => none
    | .builtin .copy => match args with
      | [s, x] => valP (opCopy P h c.argTypes s x)
      | _ => none
    | .builtin .len => match args, c.argTypes[0]? with
      | [x], some t => valH h (opLen P h t x)
      | _, _ => none
    | .builtin .delete => match args, c.argTypes[0]? with
      | [m, k], some t => match opDelete P h t m k with
        | some h' => some (.val (.tuple #[]) h')
        | none => none
      | _, _ => none
    | .builtin .min => if args.all (plainN 12) then valH h (flatV P (Builtin.min_ c.argTypes ty args.toArray)) else none
    | .builtin .max => if args.all (plainN 12) then valH h (flatV P (Builtin.max_ c.argTypes ty args.toArray)) else none
    | .builtin .real => if args.all (plainN 12) then valH h (flatV P (Builtin.real_ c.argTypes ty args.toArray)) else none
    | .builtin .imag => if args.all (plainN 12) then valH h (flatV P (Builtin.imag_ c.argTypes ty args.toArray)) else none
    | .builtin .complex => if args.all (plainN 12) then valH h (flatV P (Builtin.complex_ c.argTypes ty args.toArray)) else none
    | .builtin .unsafeSliceData => match args with
      | [x] => valH h (opSliceData x)
      | _ => none
    | .builtin .unsafeString => match args, c.argTypes.toList with
      | [x, y], [t, _] => valP (opUString P h t x y)
      | _, _ => none
    | .builtin .clear => match args, c.argTypes[0]? with
      | [x], some t => match opClear P h t x with
        | some h' => some (.val (.tuple #[]) h')
        | none => none
      | _, _ => none
    | .builtin _ => none
    | .value f => match ρ f with
      | some (.func (.func g) first captured) => enterOf P g (first.toList ++ args ++ captured.toList) h
      | _ => none
    | .invoke recv name => match ρ recv with
      | some (.iface t v) => match methodOf P t v name with
        | some (g, r) => enterOf P g (r :: args) h
        | none => none
      | _ => none

def absConvert (P : Program) (src dst : TypeId) (x : Value) (h : AH) : Option Out :=
  match P.underlying src, P.underlying dst, x with
  | some .string, some (.slice e), .string s => match P.underlying e with
    | some (.int .u8) => let (v, h') := opS2B h e s; some (.val v h')
    | _ => none
  | some (.slice e), some .string, .slice a l c => match P.underlying e with
    | some (.int .u8) => valH h (opB2S h (.slice a l c))
    | _ => none
  | some (.slice e), some .string, .func (.yield 0) z l => match P.underlying e with
    | some (.int .u8) => valH h (opB2S h (.func (.yield 0) z l))
    | _ => none
  | _, _, _ => if plain x then valH h (flatV P (convert src dst x)) else valH h (opUnsafe P h src dst x)

def absBin (P : Program) (op : BinOp) (t : TypeId) (x y : Operand) (a b : Value) (h : AH) : Option Out :=
  if plain a && plain b then valH h (flatV P (do eqGuard op t x y a b; binOp op t a b))
  else match a, b with
    | .agg _, .agg _ => none
    | .tuple _, _ => none
    | _, _ => match op with
      | .eql => match opEqPtr P h t a b with
        | some c => some (.val (.bool c) h)
        | none => none
      | .neq => match opEqPtr P h t a b with
        | some c => some (.val (.bool (!c)) h)
        | none => none
      | _ => none

def absOp (P : Program) (ρ : Operand → Option Value) (o : Oper) (h : AH) : Option Out :=
  match o.op with
  | .move x | .assign x => valH h (ρ x)
  | .pick c a b => match ρ c with
    | some (.bool t) => valH h (if t then ρ a else ρ b)
    | _ => none
  | .alloc e => valP (opAlloc P h e)
  | .box e x => match ρ x with
    | some v => let (a, h') := opNew h e v.cells; some (.val a h')
    | none => none
  | .build t parts => match partsOf ρ parts.toList with
    | some l => valH h (opBuild P t l)
    | none => none
  | .buildSlice t n parts => match partsOf ρ parts.toList with
    | some l => valP (opBuildSlice P h t n l)
    | none => none
  | .load t a => match ρ a with
    | some v => valH h (opLoad P h t v)
    | none => none
  | .store t a x => match ρ a, ρ x with
    | some a, some v => match opStore P h t a v with
      | some h' => some (.unit h')
      | none => none
    | _, _ => none
  | .nilCheck x => match ρ x with
    | some v => if nilChecked v || nilMeth P v then some (.val v h) else none
    | none => none
  | .binOp op t x y _ => match ρ x, ρ y with
    | some a, some b => absBin P op t x y a b h
    | _, _ => none
  | .unOp op _ x => match ρ x with
    | some a => if plain a then valH h (flatV P (Op.unary op a)) else none
    | none => none
  | .convert s d x => match ρ x with
    | some a => absConvert P s d a h
    | none => none
  | .makeInterface t x => match ρ x with
    | some a => valH h (opMakeInterface P t a)
    | none => none
  | .makeFunc (.func f) first captured => match listOf ρ first.toList, listOf ρ captured.toList with
    | some l, some m => some (.val (.func (.func f) l.toArray m.toArray) h)
    | _, _ => none
  | .makeFunc (.method f) first captured => match listOf ρ first.toList, listOf ρ captured.toList with
    | some l, some m => some (.val (.func (.method f) l.toArray m.toArray) h)
    | _, _ => none
  | .makeSlice t l c => match ρ l, ρ c with
    | some a, some b => valP (opMakeSlice P h t a b)
    | _, _ => none
  | .slice t x lo hi none => match ρ x, optOf ρ lo, optOf ρ hi with
    | some v, some l, some g => match v with
      | .string s => if (l.all plain && g.all plain) then valH h (flatV P (Instr.sliceAt t (.string s) l g none)) else none
      | _ => valH h (opSlice P h t v l g)
    | _, _, _ => none
  | .slice t x lo hi (some m) => match ρ x, optOf ρ lo, optOf ρ hi, ρ m with
    | some v, some l, some g, some m => valH h (opSlice3 P h t v l g (some m))
    | _, _, _, _ => none
  | .fieldAddr s x f => match ρ x with
    | some a => valH h (opFieldAddr P s a f)
    | none => none
  | .field s x f => match ρ x with
    | some a => valH h (opField P s a f)
    | none => none
  | .indexAddr t x i => match ρ x, ρ i with
    | some a, some b => valH h (opIndexAddr P t a b)
    | _, _ => none
  | .index t x i => match ρ x, ρ i with
    | some a, some b => valH h (opIndex P t a b)
    | _, _ => none
  | .typeAssert x st t ok => match ρ x with
    | some a => valH h (opTypeAssert P a t ok)
    | none => none
  | .extract t i => match ρ t with
    | some a => valH h (opExtract a i)
    | none => none
  | .call c => absCall P ρ c o.type h
  | .makeMap t none => let (v, h') := opMakeMap h; some (.val v h')
  | .lookup t x k ok => match ρ x, ρ k with
    | some a, some b => valH h (opLookup P h t a b ok)
    | _, _ => none
  | .mapUpdate t m k x | .insert t m k x => match ρ m, ρ k, ρ x with
    | some a, some b, some c => match opMapUpdate P h t a b c with
      | some h' => some (.unit h')
      | none => none
    | _, _, _ => none
  | .mapEntry t m k => match ρ m, ρ k with
    | some a, some b => valP (opMapEntry P h t a b)
    | _, _ => none
  | .entryStore _ m s x => match ρ m, ρ s, ρ x with
    | some a, some b, some c => match opEntryStore h a b c with
      | some h' => some (.unit h')
      | none => none
    | _, _, _ => none
  | .range t x => match ρ x with
    | some a => valP (opRange P h t a)
    | none => none
  | .next it s => match ρ it with
    | some a => valP (opNext P h a s)
    | none => none
  | .entry it => match ρ it with
    | some a => valH h (opEntry h a)
    | none => none
  | _ => none

/-- what an activation knows of itself beside its temporaries: the loop in a round of which it runs, and the calls that it has deferred, the last one first -/
structure Rn where
  loop : Option Nat := none
  dfs : List Value := []

/-- temporaries -/
structure AA where
  tm : T Value
  n : Nat
  rnd : Rn := {}

/-- what is known of a temporary -/
def AA.get (a : AA) (t : Nat) : Option Value := a.tm.get (t + 1)
def AA.put (a : AA) (d : Option Tmp) (v : Value) : AA :=
  match d with
  | some d => if d < a.n then ⟨a.tm.put (d + 1) (d + 1) (some v), a.n, a.rnd⟩ else a
  | none => a

def AA.opnd (P : Program) (a : AA) : Operand → Option Value
  | .tmp t => a.get t
  | .const v => if plain v then some v else none
  | .global g => if g < P.globals.size then some (.pointer (some ⟨g, 0, none⟩)) else none
  | .func f => some (.func (.func f) #[] #[])

def AA.yielded (ops : Array Oper) (a : AA) (j : Nat) : Option Bool :=
  match (ops[j]?).bind (·.dst) with
  | some d => if d < a.n then match a.get d with
    | some (.bool b) => some b
    | _ => none
    else none
  | none => none

/-- is it known whether the operation is wanted? -/
def AA.knows (ops : Array Oper) (a : AA) (o : Oper) : Bool :=
  match o.guard with
  | none => true
  | some (j, _) => match (ops[j]?).bind (·.dst) with
    | some d => if d < a.n then (a.get d).isSome else true
    | none => true

/-- just these temporaries stay known -/
def AA.keep (a : AA) : List Nat → AA
  | [] => ⟨.leaf, a.n, a.rnd⟩
  | t :: l => match a.get t with
    | some v => ⟨(a.keep l).tm.put (t + 1) (t + 1) (some v), a.n, a.rnd⟩
    | none => a.keep l

/-- what a call yields, whether it may have changed the heap, and the heap behind it -/
abbrev CallF := FuncId → Array Value → AH → Option (Value × Bool × AH)

def absOps (P : Program) (call : CallF) (ops : Array Oper) : List Nat → AA → AH → Option (AA × AH)
  | [], a, h => some (a, h)
  | i :: rest, a, h =>
    match ops[i]? with
    | none => absOps P call ops rest a h
    | some o =>
      if a.knows ops o then
      if Region.wanted o (a.yielded ops) then
        match absOp P (a.opnd P) o h with
        | some (.val v h') => absOps P call ops rest (a.put o.dst v) h'
        | some (.unit h') => absOps P call ops rest (a.put o.dst undef) h'
        | some (.enter f args h') => match call f args h' with
          | some (v, _, h'') => absOps P call ops rest (a.put o.dst v) h''
          | none => none
        | none => none
      else absOps P call ops rest (a.put o.dst undef) h
      else none

inductive AX where
  | normal
  | exit (id : Nat)
  | goto (l : Nat)
  | ret

def AX.toExit : AX → Exit
  | .normal => .normal
  | .exit i => .exit i
  | .goto l => .goto l
  | .ret => .ret

def loopN (body : AA → AH → Option (AX × AA × AH)) : Nat → AA → AH → Option (AX × AA × AH)
  | 0, _, _ => none
  | k + 1, a, h => match body a h with
    | some (.normal, a', h') => loopN body k a' h'
    | r => r

def resultsOf (P : Program) (a : AA) (h : AH) : List ResultVar → Option (List Value)
  | [] => some []
  | .tmp t :: l => match a.get t, resultsOf P a h l with
    | some v, some vs => some (v :: vs)
    | _, _ => none
  | .cell c t :: l => match (a.get c).bind (opLoad P h t), resultsOf P a h l with
    | some v, some vs => some (v :: vs)
    | _, _ => none

def oneOf : List Value → Value
  | [v] => v
  | vs => .tuple vs.toArray

def tmsOf : Nat → List Value → T Value → T Value
  | _, [], t => t
  | k, v :: l, t => tmsOf (k + 1) l (t.put (k + 1) (k + 1) (some v))

end Go.Ab
