/-
  ABSTRACT HEAPS: an evaluator of the program's code over a heap of one's own, and that what it says is so.
-/
import Derived.Test.YtbjnnnmmekmldaaDoorAbA
import Derived.WalkKit
import Derived.ProofKit
import Derived.OpenShut
import Derived.Below
import Derived.WideShapes
/- AbDraw -/
namespace Go.Ab
set_option linter.unusedVariables false
set_option linter.unusedSimpArgs false
open Region

/-- what has run (latest first) and what ran ahead of it -/
def Good (m : Region.Mode) (ops : Array Oper) : List Nat → Prop
  | [] => True
  | i :: acc => Good m ops acc ∧ i ∉ acc ∧ ∃ o, ops[i]? = some o ∧ ∀ e ∈ o.after, binds m e = true → e.on ∈ acc

theorem Good.drop {m : Region.Mode} {ops : Array Oper} : ∀ {l k : List Nat}, Good m ops (l ++ k) → Good m ops k := by
  intro l
  induction l with
  | nil => intro k h; exact h
  | cons i l ih => intro k h; exact ih h.1

theorem Good.nodup {m : Region.Mode} {ops : Array Oper} : ∀ {l : List Nat}, Good m ops l → l.Nodup := by
  intro l
  induction l with
  | nil => intro _; exact List.nodup_nil
  | cons i l ih => intro h; exact List.nodup_cons.2 ⟨h.2.1, ih h.1⟩

theorem Good.lt {m : Region.Mode} {ops : Array Oper} : ∀ {l : List Nat}, Good m ops l → ∀ i ∈ l, i < ops.size := by
  intro l
  induction l with
  | nil => intro _ i hi; cases hi
  | cons j l ih =>
    intro h i hi
    cases hi with
    | head => obtain ⟨o, ho, _⟩ := h.2.2; exact (Array.getElem?_eq_some_iff.1 ho).1
    | tail _ hi => exact ih h.1 i hi

/-- every edge leads backwards -/
def backs (ops : Array Oper) : Bool := (List.range ops.size).all fun i => match ops[i]? with
  | some o => o.after.toList.all fun e => decide (e.on < i)
  | none => true

theorem backs_lt {ops : Array Oper} (h : backs ops = true) {i : Nat} {o : Oper} (ho : ops[i]? = some o) : ∀ e ∈ o.after, e.on < i := by
  intro e he
  have hi : i < ops.size := (Array.getElem?_eq_some_iff.1 ho).1
  have h1 := List.all_eq_true.1 h i (List.mem_range.2 hi)
  simp only [ho] at h1
  exact of_decide_eq_true (List.all_eq_true.1 h1 e (by simpa using he))

theorem go_good {m : Region.Mode} {ops : Array Oper} (hb : backs ops = true) : ∀ (fuel t : Nat) (listed : Array Bool) (acc : List Nat), listed.size = ops.size →
    (∀ i, i < ops.size → (listed[i]? = some true ↔ i ∈ acc)) → Good m ops acc → acc.length + fuel = ops.size →
    ∃ l, linearise.go m ops fuel t listed acc = l.reverse ∧ Good m ops l ∧ l.length = ops.size := by
  intro fuel
  induction fuel with
  | zero => intro t listed acc hs hl hg hf; exact ⟨acc, rfl, hg, by omega⟩
  | succ fuel ih =>
    intro t listed acc hs hl hg hf
    simp only [linearise.go]
    generalize hrs : (List.range ops.size).filter (fun i => !listed.getD i true && ((ops[i]?).map (·.after.all fun e => !binds m e || listed.getD e.on false)).getD false) = rs
    have hlist : ∀ i, i < ops.size → listed.getD i true = decide (i ∈ acc) ∧ listed.getD i false = decide (i ∈ acc) := by
      intro i hi
      have h1 := hl i hi
      have hlt : i < listed.size := by omega
      rw [Array.getElem?_eq_getElem hlt] at h1
      rw [Array.getD_eq_getD_getElem?, Array.getD_eq_getD_getElem?, Array.getElem?_eq_getElem hlt]
      simp only [Option.getD_some, Option.some.injEq] at h1 ⊢
      cases hv : listed[i] with
      | true => rw [hv] at h1; simp [h1.1 rfl]
      | false =>
        rw [hv] at h1
        have : i ∉ acc := fun hm => by cases h1.2 hm
        simp [this]
    have hne : rs ≠ [] := by
      -- the least that has not run is ready
      have hex : ∃ i, i < ops.size ∧ i ∉ acc := by
        apply Classical.byContradiction
        intro hno
        have hall : ∀ i ∈ List.range ops.size, i ∈ acc := fun i hi => Classical.byContradiction fun hc => hno ⟨i, List.mem_range.1 hi, hc⟩
        have := (List.nodup_range (n := ops.size)).length_le_of_subset hall
        rw [List.length_range] at this
        omega
      have key : ∀ k, (∃ i, i < ops.size ∧ i ∉ acc ∧ i ≤ k) → ∃ i, i < ops.size ∧ i ∉ acc ∧ ∀ j, j < i → j ∈ acc := by
        intro k
        induction k with
        | zero => rintro ⟨i, h1, h2, h3⟩; exact ⟨i, h1, h2, fun j hj => by omega⟩
        | succ k ihk =>
          rintro ⟨i, h1, h2, h3⟩
          by_cases hh : ∃ i, i < ops.size ∧ i ∉ acc ∧ i ≤ k
          · exact ihk hh
          · refine ⟨i, h1, h2, fun j hj => Classical.byContradiction fun hc => hh ⟨j, by omega, hc, by omega⟩⟩
      obtain ⟨i₀, a1, a2⟩ := hex
      obtain ⟨i, h1, h2, h3⟩ := key i₀ ⟨i₀, a1, a2, Nat.le_refl _⟩
      have ho : ops[i]? = some ops[i] := Array.getElem?_eq_getElem h1
      have : i ∈ rs := by
        rw [← hrs, List.mem_filter]
        refine ⟨List.mem_range.2 h1, ?_⟩
        rw [(hlist i h1).1, ho]
        simp only [h2, decide_false, Bool.not_false, Bool.true_and, Option.map_some, Option.getD_some, Array.all_eq_true']
        intro e he
        have hlt := backs_lt hb ho e he
        rw [(hlist e.on (by omega)).2]
        simp [h3 e.on hlt]
      intro he
      rw [he] at this
      cases this
    have hlen : 0 < rs.length := List.length_pos_iff.2 hne
    have hget : rs[t % rs.length]? = some (rs[t % rs.length]'(Nat.mod_lt _ hlen)) := List.getElem?_eq_getElem _
    rw [hget]
    simp only
    generalize hi : rs[t % rs.length]'(Nat.mod_lt _ hlen) = i
    have him : i ∈ rs := by rw [← hi]; exact List.getElem_mem _
    rw [← hrs, List.mem_filter, List.mem_range] at him
    obtain ⟨h1, h2⟩ := him
    have ho : ops[i]? = some ops[i] := Array.getElem?_eq_getElem h1
    rw [(hlist i h1).1, ho] at h2
    simp only [Option.map_some, Option.getD_some, Bool.and_eq_true, Bool.not_eq_true', decide_eq_false_iff_not, Array.all_eq_true'] at h2
    refine ih _ _ _ (by simp [hs]) ?_ ⟨hg, h2.1, _, ho, fun e he hbe => ?_⟩ (by simp; omega)
    · intro j hj
      rw [Array.getElem?_setIfInBounds]
      by_cases e : i = j
      · subst e
        rw [if_pos rfl, if_pos (by omega)]
        simp
      · rw [if_neg e, hl j hj]
        constructor
        · exact fun h => List.mem_cons_of_mem _ h
        · intro h
          cases h with
          | head => exact absurd rfl e
          | tail _ h => exact h
    · have h3 := h2.2 e he
      have hlt := backs_lt hb ho e he
      rw [hbe, (hlist e.on (by omega)).2] at h3
      simpa using h3

theorem linearise_good {m : Region.Mode} {ops : Array Oper} (hb : backs ops = true) (t : Nat) : ∃ l, linearise m ops t = l.reverse ∧ Good m ops l ∧ l.length = ops.size := by
  refine go_good hb _ _ _ _ (by simp) (fun i hi => ?_) trivial (by simp)
  rw [Array.getElem?_replicate, if_pos hi]
  simp

theorem schedule_good {mixed : Bool} {ops : Array Oper} (hb : backs ops = true) (t : Nat) : ∃ m l, schedule mixed ops t = l.reverse ∧ Good m ops l ∧ l.length = ops.size := by
  unfold schedule
  split
  · obtain ⟨l, h⟩ := linearise_good (m := .any) hb t; exact ⟨_, l, h⟩
  · obtain ⟨l, h⟩ := linearise_good (m := if t % 2 == 0 then .text else .gc) hb (t / 2); exact ⟨_, l, h⟩

/-- edges that bind in whatever order -/
def strong (e : Edge) : Bool := match e.ground with
  | .textOnly _ | .gcOnly _ => false
  | _ => true

theorem strong_binds {e : Edge} (h : strong e = true) (m : Region.Mode) : binds m e = true := by
  unfold strong at h
  unfold binds
  cases hg : e.ground <;> simp_all

end Go.Ab

/- AbDraw2 -/
namespace Go.Ab
set_option linter.unusedVariables false
set_option linter.unusedSimpArgs false

section
variable {P : Program} {ρ σ : Operand → Option Value}

theorem listOf_congr : ∀ {l : List Operand}, (∀ x ∈ l, ρ x = σ x) → listOf ρ l = listOf σ l := by
  intro l
  induction l with
  | nil => intro _; rfl
  | cons x l ih => intro h; simp only [listOf, h x (by simp), ih (fun y hy => h y (by simp [hy]))]

theorem partsOf_congr : ∀ {l : List (Nat × Operand)}, (∀ x ∈ l, ρ x.2 = σ x.2) → partsOf ρ l = partsOf σ l := by
  intro l
  induction l with
  | nil => intro _; rfl
  | cons x l ih =>
    intro h
    obtain ⟨i, x⟩ := x
    simp only [partsOf, h (i, x) (by simp), ih (fun y hy => h y (by simp [hy]))]

theorem optOf_congr {x : Option Operand} (h : ∀ y, x = some y → ρ y = σ y) : optOf ρ x = optOf σ x := by
  cases x with
  | none => rfl
  | some y => simp only [optOf, h y rfl]

theorem absCall_congr {c : Call} {ty : TypeId} {h : AH} (hx : ∀ x ∈ c.operands.toList, ρ x = σ x) : absCall P ρ c ty h = absCall P σ c ty h := by
  have h1 : listOf ρ c.args.toList = listOf σ c.args.toList := listOf_congr fun x hm => hx x (by simp only [Call.operands, Array.toList_append]; exact List.mem_append_right _ hm)
  unfold absCall
  rw [h1]
  cases hc : c.callee with
  | builtin b => cases b <;> rfl
  | value f => simp only [hx f (by simp [Call.operands, hc])]
  | invoke f m => simp only [hx f (by simp [Call.operands, hc])]

theorem absOp_congr {o : Oper} {h : AH} (hx : ∀ x ∈ o.op.operands.toList, ρ x = σ x) : absOp P ρ o h = absOp P σ o h := by
  unfold absOp
  cases ho : o.op with
  | move x => simp only [ho, Op.operands] at hx; simp only [hx x (by simp)]
  | assign x => simp only [ho, Op.operands] at hx; simp only [hx x (by simp)]
  | pick c a b => simp only [ho, Op.operands] at hx; simp only [hx c (by simp), hx a (by simp), hx b (by simp)]
  | box e x => simp only [ho, Op.operands] at hx; simp only [hx x (by simp)]
  | build t l =>
    simp only [ho, Op.operands] at hx
    simp only [partsOf_congr (l := l.toList) (fun x hm => hx x.2 (by simpa using ⟨x.1, by simpa using hm⟩))]
  | buildSlice t n l =>
    simp only [ho, Op.operands] at hx
    simp only [partsOf_congr (l := l.toList) (fun x hm => hx x.2 (by simpa using ⟨x.1, by simpa using hm⟩))]
  | load t x => simp only [ho, Op.operands] at hx; simp only [hx x (by simp)]
  | store t x y => simp only [ho, Op.operands] at hx; simp only [hx x (by simp), hx y (by simp)]
  | nilCheck x => simp only [ho, Op.operands] at hx; simp only [hx x (by simp)]
  | binOp op t x y yt => simp only [ho, Op.operands] at hx; simp only [hx x (by simp), hx y (by simp)]
  | unOp op t x => simp only [ho, Op.operands] at hx; simp only [hx x (by simp)]
  | convert s d x => simp only [ho, Op.operands] at hx; simp only [hx x (by simp)]
  | makeInterface t x => simp only [ho, Op.operands] at hx; simp only [hx x (by simp)]
  | makeFunc fn l m =>
    simp only [ho, Op.operands] at hx
    have h1 : listOf ρ l.toList = listOf σ l.toList := listOf_congr fun x hm => hx x (by rw [Array.toList_append]; exact List.mem_append_left _ hm)
    have h2 : listOf ρ m.toList = listOf σ m.toList := listOf_congr fun x hm => hx x (by rw [Array.toList_append]; exact List.mem_append_right _ hm)
    cases fn <;> simp only [h1, h2]
  | makeSlice t x y => simp only [ho, Op.operands] at hx; simp only [hx x (by simp), hx y (by simp)]
  | slice t x l g m =>
    simp only [ho, Op.operands] at hx
    have h1 : optOf ρ l = optOf σ l := optOf_congr fun y e => hx y (by simp [e])
    have h2 : optOf ρ g = optOf σ g := optOf_congr fun y e => hx y (by simp [e])
    cases m <;> simp only [hx x (by simp), h1, h2]
  | fieldAddr t x f => simp only [ho, Op.operands] at hx; simp only [hx x (by simp)]
  | field t x f => simp only [ho, Op.operands] at hx; simp only [hx x (by simp)]
  | indexAddr t x y => simp only [ho, Op.operands] at hx; simp only [hx x (by simp), hx y (by simp)]
  | index t x y => simp only [ho, Op.operands] at hx; simp only [hx x (by simp), hx y (by simp)]
  | typeAssert x a b c => simp only [ho, Op.operands] at hx; simp only [hx x (by simp)]
  | extract x i => simp only [ho, Op.operands] at hx; simp only [hx x (by simp)]
  | call c => simp only [ho, Op.operands] at hx; exact absCall_congr hx
  | lookup t x k ok => simp only [ho, Op.operands] at hx; simp only [hx x (by simp), hx k (by simp)]
  | mapUpdate t m k x => simp only [ho, Op.operands] at hx; simp only [hx m (by simp), hx k (by simp), hx x (by simp)]
  | insert t m k x => simp only [ho, Op.operands] at hx; simp only [hx m (by simp), hx k (by simp), hx x (by simp)]
  | makeMap t r => cases r <;> rfl
  | _ => rfl

/-- may it change the heap? -/
def loud (P : Program) (o : Oper) : Bool :=
  match o.op with
  | .move _ | .assign _ | .pick .. | .build .. | .load .. | .nilCheck _ | .binOp .. | .unOp .. | .makeInterface .. | .makeFunc .. | .slice .. | .fieldAddr .. | .field .. | .indexAddr .. | .index ..
  | .typeAssert .. | .extract .. | .lookup .. => false
  | .convert s d _ => match P.underlying d with
    | some (.slice _) => true
    | _ => false
  | .call { callee := .builtin .len, .. } | .call { callee := .builtin .min, .. } | .call { callee := .builtin .max, .. } => false
  | _ => true

theorem valH_quiet {h : AH} {v : Option Value} {out : Out} (hh : valH h v = some out) : ∃ u, out = .val u h := by
  obtain ⟨u, _, rfl⟩ := valH_eq hh
  exact ⟨u, rfl⟩

theorem absBin_quiet {op : BinOp} {t : TypeId} {x y : Operand} {a b : Value} {h : AH} {out : Out} (hh : absBin P op t x y a b h = some out) : ∃ v, out = .val v h := by
  unfold absBin at hh
  repeat' split at hh
  all_goals first
    | exact valH_quiet hh
    | (cases hh; done)
    | (cases hh; exact ⟨_, rfl⟩)

theorem quiet_val {o : Oper} {h : AH} {out : Out} (hq : loud P o = false) (hh : absOp P ρ o h = some out) : ∃ v, out = .val v h := by
  unfold loud at hq
  unfold absOp at hh
  cases ho : o.op with
  | binOp op t x y yt =>
    simp only [ho] at hh
    split at hh
    · exact absBin_quiet hh
    · cases hh
  | convert s d x =>
    simp only [ho] at hh hq
    split at hh
    · unfold absConvert at hh
      split at hh
      · rename_i h1 h2; rw [h1] at hq; cases hq
      · split at hh
        · exact valH_quiet hh
        · cases hh
      · split at hh
        · exact valH_quiet hh
        · cases hh
      · split at hh
        · exact valH_quiet hh
        · cases hh
    · cases hh
  | call c =>
    simp only [ho] at hh hq
    unfold absCall at hh
    obtain ⟨callee, args, ats⟩ := c
    cases callee with
    | value f => cases hq
    | invoke f m => cases hq
    | builtin b =>
      cases b
      case len =>
        simp only at hh
        repeat' split at hh
        all_goals first
          | exact valH_quiet hh
          | (cases hh; done)
      case min =>
        simp only at hh
        repeat' split at hh
        all_goals first
          | exact valH_quiet hh
          | (cases hh; done)
      case max =>
        simp only at hh
        repeat' split at hh
        all_goals first
          | exact valH_quiet hh
          | (cases hh; done)
      all_goals (cases hq)
  | move x =>
    simp only [ho] at hh
    exact valH_quiet hh
  | assign x =>
    simp only [ho] at hh
    exact valH_quiet hh
  | pick c a b =>
    simp only [ho] at hh
    repeat' split at hh
    all_goals first
      | exact valH_quiet hh
      | (cases hh; done)
      | (cases hh; exact ⟨_, rfl⟩)
  | build t l =>
    simp only [ho] at hh
    repeat' split at hh
    all_goals first
      | exact valH_quiet hh
      | (cases hh; done)
      | (cases hh; exact ⟨_, rfl⟩)
  | load t x =>
    simp only [ho] at hh
    repeat' split at hh
    all_goals first
      | exact valH_quiet hh
      | (cases hh; done)
      | (cases hh; exact ⟨_, rfl⟩)
  | nilCheck x =>
    simp only [ho] at hh
    repeat' split at hh
    all_goals first
      | exact valH_quiet hh
      | (cases hh; done)
      | (cases hh; exact ⟨_, rfl⟩)
  | unOp op t x =>
    simp only [ho] at hh
    repeat' split at hh
    all_goals first
      | exact valH_quiet hh
      | (cases hh; done)
      | (cases hh; exact ⟨_, rfl⟩)
  | makeInterface t x =>
    simp only [ho] at hh
    repeat' split at hh
    all_goals first
      | exact valH_quiet hh
      | (cases hh; done)
      | (cases hh; exact ⟨_, rfl⟩)
  | slice t x l g m =>
    cases m with
    | some m => simp only [ho] at hh; cases hh
    | none =>
      simp only [ho] at hh
      repeat' split at hh
      all_goals first
        | exact valH_quiet hh
        | (cases hh; done)
        | (cases hh; exact ⟨_, rfl⟩)
  | fieldAddr t x f =>
    simp only [ho] at hh
    repeat' split at hh
    all_goals first
      | exact valH_quiet hh
      | (cases hh; done)
      | (cases hh; exact ⟨_, rfl⟩)
  | field t x f =>
    simp only [ho] at hh
    repeat' split at hh
    all_goals first
      | exact valH_quiet hh
      | (cases hh; done)
      | (cases hh; exact ⟨_, rfl⟩)
  | indexAddr t x y =>
    simp only [ho] at hh
    repeat' split at hh
    all_goals first
      | exact valH_quiet hh
      | (cases hh; done)
      | (cases hh; exact ⟨_, rfl⟩)
  | index t x y =>
    simp only [ho] at hh
    repeat' split at hh
    all_goals first
      | exact valH_quiet hh
      | (cases hh; done)
      | (cases hh; exact ⟨_, rfl⟩)
  | typeAssert x a b c =>
    simp only [ho] at hh
    repeat' split at hh
    all_goals first
      | exact valH_quiet hh
      | (cases hh; done)
      | (cases hh; exact ⟨_, rfl⟩)
  | lookup t x k ok =>
    simp only [ho] at hh
    split at hh
    · exact valH_quiet hh
    · cases hh
  | extract x i =>
    simp only [ho] at hh
    repeat' split at hh
    all_goals first
      | exact valH_quiet hh
      | (cases hh; done)
      | (cases hh; exact ⟨_, rfl⟩)
  | makeFunc fn l m =>
    simp only [ho] at hh
    cases fn
    case func f =>
      simp only at hh
      split at hh
      · cases hh; exact ⟨_, rfl⟩
      · cases hh
    all_goals (cases hh)
  | _ => simp [ho] at hq

end

end Go.Ab

/- AbDraw3 -/
namespace Go.Ab
set_option linter.unusedVariables false
set_option linter.unusedSimpArgs false

/-- one operation of the run in the order of the text: the temporaries and the heap ahead of it, what it yields, whether it may have changed the heap, the heap behind it -/
structure Rec where
  o : Oper
  a : AA
  h : AH
  v : Value
  q : Bool
  h' : AH

def stepAt (P : Program) (call : CallF) (ops : Array Oper) (o : Oper) (a : AA) (h : AH) : Option (Value × Bool × AH) :=
  if a.knows ops o then
  if Region.wanted o (a.yielded ops) then
    match absOp P (a.opnd P) o h with
    | some (.val v h') => some (v, loud P o, h')
    | some (.unit h') => some (undef, true, h')
    | some (.enter f args h') => call f args h'
    | none => none
  else some (undef, false, h)
  else none

def trace (P : Program) (call : CallF) (ops : Array Oper) : List Oper → AA → AH → Option (List Rec × AA × AH)
  | [], a, h => some ([], a, h)
  | o :: l, a, h => match stepAt P call ops o a h with
    | some (v, q, h') => match trace P call ops l (a.put o.dst v) h' with
      | some (rs, a₂, h₂) => some (⟨o, a, h, v, q, h'⟩ :: rs, a₂, h₂)
      | none => none
    | none => none

/-- the greatest below n -/
def lastB (p : Nat → Bool) : Nat → Option Nat
  | 0 => none
  | n + 1 => if p n then some n else lastB p n

theorem lastB_none {p : Nat → Bool} : ∀ {n : Nat}, lastB p n = none → ∀ k, k < n → p k = false := by
  intro n
  induction n with
  | zero => intro _ k hk; omega
  | succ n ih =>
    intro h k hk
    simp only [lastB] at h
    split at h
    · cases h
    · rename_i hp
      by_cases e : k = n
      · subst e; simpa using hp
      · exact ih h k (by omega)

theorem lastB_some {p : Nat → Bool} : ∀ {n l : Nat}, lastB p n = some l → l < n ∧ p l = true ∧ ∀ k, k < n → p k = true → k ≤ l := by
  intro n
  induction n with
  | zero => intro l h; cases h
  | succ n ih =>
    intro l h
    simp only [lastB] at h
    split at h
    · rename_i hp; cases h; exact ⟨by omega, hp, fun k hk _ => by omega⟩
    · rename_i hp
      obtain ⟨h1, h2, h3⟩ := ih h
      refine ⟨by omega, h2, fun k hk hpk => ?_⟩
      by_cases e : k = n
      · subst e; exact absurd hpk hp
      · exact h3 k (by omega) hpk

theorem lastB_congr {p q : Nat → Bool} : ∀ {n : Nat}, (∀ k, k < n → p k = q k) → lastB p n = lastB q n := by
  intro n
  induction n with
  | zero => intro _; rfl
  | succ n ih =>
    intro h
    simp only [lastB]
    rw [h n (by omega), ih fun k hk => h k (by omega)]

/-- nothing at and above i -/
theorem lastB_cut {p : Nat → Bool} {i : Nat} : ∀ {n : Nat}, i ≤ n → (∀ k, i ≤ k → k < n → p k = false) → lastB p n = lastB p i := by
  intro n
  induction n with
  | zero => intro h _; rw [Nat.le_zero.1 h]
  | succ n ih =>
    intro h hp
    by_cases e : i = n + 1
    · rw [e]
    · simp only [lastB]
      rw [hp n (by omega) (by omega)]
      exact ih (by omega) fun k h1 h2 => hp k h1 (by omega)

theorem lastB_at {p : Nat → Bool} {i n : Nat} (h : i < n) (hi : p i = true) (hp : ∀ k, i < k → k < n → p k = false) : lastB p n = some i := by
  rw [lastB_cut (i := i + 1) (by omega) fun k h1 h2 => hp k (by omega) h2]
  simp only [lastB, hi, if_true]

/-- which tmps an operation reads -/
def readsOf (ops : Array Oper) (o : Oper) : List Nat :=
  (o.op.operands.toList.filterMap fun | .tmp t => some t | _ => none) ++ (match o.guard with | some (j, _) => ((ops[j]?).bind (·.dst)).toList | none => [])

/-- two runs that agree on what is read -/
theorem step_congr {P : Program} {call : CallF} {ops : Array Oper} {o : Oper} {a b : AA} (hn : a.n = b.n) (hr : ∀ t ∈ readsOf ops o, a.get t = b.get t) (h : AH) :
    stepAt P call ops o a h = stepAt P call ops o b h := by
  have h0 : ∀ j want, o.guard = some (j, want) → ∀ d, (ops[j]?).bind (·.dst) = some d → a.get d = b.get d := fun j want hg d hd => hr d (by simp [readsOf, hg, hd])
  have h1 : a.knows ops o = b.knows ops o := by
    unfold AA.knows
    cases hg : o.guard with
    | none => rfl
    | some jw =>
      obtain ⟨j, want⟩ := jw
      simp only
      cases hd : (ops[j]?).bind (·.dst) with
      | none => rfl
      | some d => simp only [hn]; rw [h0 j want hg d hd]
  have h2 : Region.wanted o (a.yielded ops) = Region.wanted o (b.yielded ops) := by
    unfold Region.wanted
    cases hg : o.guard with
    | none => rfl
    | some jw =>
      obtain ⟨j, want⟩ := jw
      simp only
      have : a.yielded ops j = b.yielded ops j := by
        unfold AA.yielded
        cases hd : (ops[j]?).bind (·.dst) with
        | none => rfl
        | some d => simp only [hn]; rw [h0 j want hg d hd]
      rw [this]
  have h3 : absOp P (a.opnd P) o h = absOp P (b.opnd P) o h := by
    refine absOp_congr fun x hx => ?_
    cases x with
    | tmp t =>
      have : t ∈ readsOf ops o := List.mem_append_left _ (List.mem_filterMap.2 ⟨.tmp t, hx, rfl⟩)
      simp only [AA.opnd, hr t this]
    | _ => rfl
  unfold stepAt
  rw [h1, h2, h3]

theorem enter_same {P : Program} {ρ : Operand → Option Value} {o : Oper} {h h' : AH} {f : FuncId} {args : Array Value} (hh : absOp P ρ o h = some (.enter f args h')) : h' = h := by
  have noVal : ∀ {v : Option Value}, valH h v = some (.enter f args h') → False := fun e => by obtain ⟨u, _, e⟩ := valH_eq e; cases e
  have noValP : ∀ {v : Option (Value × AH)}, valP v = some (.enter f args h') → False := fun e => by obtain ⟨u, g, _, e⟩ := valP_eq e; cases e
  have ent : ∀ {g : FuncId} {l : List Value}, enterOf P g l h = some (.enter f args h') → h' = h := by
    intro g l e
    unfold enterOf at e
    repeat' split at e
    all_goals first
      | (cases e; done)
      | (cases e; rfl)
  unfold absOp at hh
  repeat' split at hh
  all_goals first
    | (cases hh; done)
    | (exact (noVal hh).elim)
    | (exact (noValP hh).elim)
    | skip
  · unfold absBin at hh
    repeat' split at hh
    all_goals first
      | (cases hh; done)
      | (exact (noVal hh).elim)
  · unfold absConvert at hh
    repeat' split at hh
    all_goals first
      | (cases hh; done)
      | (exact (noVal hh).elim)
  · unfold absCall at hh
    repeat' split at hh
    all_goals first
      | (cases hh; done)
      | (exact (noVal hh).elim)
      | (exact (noValP hh).elim)
      | exact ent hh

theorem quiet_step {P : Program} {call : CallF} (hc : CallOk P call) {ops : Array Oper} {o : Oper} {a : AA} {h h' : AH} {v : Value} (hs : stepAt P call ops o a h = some (v, false, h')) : h' = h := by
  unfold stepAt at hs
  split at hs
  case isFalse => cases hs
  split at hs
  · split at hs
    · rename_i u g hop
      have e1 : loud P o = false := congrArg (fun x => x.2.1) (Option.some.inj hs)
      obtain ⟨u2, hu⟩ := quiet_val e1 hop
      cases hu
      exact (congrArg (fun x => x.2.2) (Option.some.inj hs)).symm
    · cases hs
    · rename_i f args g hop
      rw [(hc f args g v false h' hs).1 rfl, enter_same hop]
    · cases hs
  · cases hs; rfl

/-- one operation in the world -/
theorem step_wp {P : Program} {call : CallF} (hc : CallOk P call) {ops : Array Oper} {o : Oper} {a : AA} {h h' : AH} {v : Value} {q : Bool} (hs : stepAt P call ops o a h = some (v, q, h'))
    {E : Ren} {w : World} {y : Act} (r : RW P E h w) (rt : RT E a y.tmps) (hd : y.defers = []) {K : Act → World → Prop} {Q : Exit → Act → World → Prop}
    (hK : ∀ E' w' z, RW P E' h' w' → Ext E w E' w' → RT E' (a.put o.dst v) z.tmps → z.defers = [] → K z w') :
    if Region.wanted o (Go.yielded ops y.tmps) then o.wp P y w K Q ∨ (o.asks P y w ∧ LetsOut Q) else K (y.put o.dst undef) w := by
  have hput : ∀ (d : Option Tmp) (v : Value), (y.put d v).defers = [] := fun d v => by cases d <;> exact hd
  unfold stepAt at hs
  split at hs
  case isFalse => cases hs
  rename_i hk
  rw [← rt.yielded ops hk]
  split at hs
  · rename_i hw
    rw [if_pos hw]
    left
    split at hs
    · rename_i u g hop
      have e1 : u = v := congrArg (fun x => x.1) (Option.some.inj hs)
      have e2 : g = h' := congrArg (fun x => x.2.2) (Option.some.inj hs)
      subst e1 e2
      obtain ⟨E', v', w', h1, h2, h3, h4⟩ := absOp_ok r (rt.opnd r) hop
      unfold Oper.wp
      rw [h1, Oper.upon_value]
      exact hK E' w' _ h2 h3 ((rt.mono h3.le).put o.dst h4) (hput _ _)
    · rename_i g hop
      cases hs
      obtain ⟨E', w', h1, h2, h3⟩ := absOp_ok r (rt.opnd r) hop
      unfold Oper.wp
      rw [h1, Oper.upon_skip]
      exact hK E' w' _ h2 h3 ((rt.mono h3.le).put o.dst rv_undef) (hput _ _)
    · rename_i f args g hop
      obtain ⟨E', args', w', h1, h2, h3, h4⟩ := absOp_ok r (rt.opnd r) hop
      unfold Oper.wp
      rw [h1, Oper.upon_enter]
      refine ((hc f args g v q h' hs).2 E' w' args' h2 h4).mono ?_
      rintro e w'' ⟨E'', v', rfl, q1, q2, q3⟩
      exact hK E'' w'' _ q1 (h3.trans q2) (((rt.mono h3.le).mono q2.le).put o.dst q3) (hput _ _)
    · cases hs
  · rename_i hw
    rw [if_neg hw]
    cases hs
    exact hK E w _ r (.refl E w) (rt.put o.dst rv_undef) (hput _ _)

section
variable {P : Program} {call : CallF} {ops : Array Oper}

/-- what the run in the order of the text is at each operation -/
theorem trace_get : ∀ {l : List Oper} {a : AA} {h : AH} {rs : List Rec} {a₂ : AA} {h₂ : AH}, trace P call ops l a h = some (rs, a₂, h₂) →
    rs.length = l.length ∧ (∀ (i : Nat) r, rs[i]? = some r → l[i]? = some r.o ∧ stepAt P call ops r.o r.a r.h = some (r.v, r.q, r.h')) ∧
    (∀ r, rs[0]? = some r → r.a = a ∧ r.h = h) ∧ (∀ (i : Nat) r q, rs[i]? = some r → rs[i + 1]? = some q → q.a = r.a.put r.o.dst r.v ∧ q.h = r.h') ∧
    (rs = [] → a₂ = a ∧ h₂ = h) ∧ (∀ r, rs[rs.length - 1]? = some r → a₂ = r.a.put r.o.dst r.v ∧ h₂ = r.h') := by
  intro l
  induction l with
  | nil => intro a h rs a₂ h₂ ht; cases ht; simp
  | cons o l ih =>
    intro a h rs a₂ h₂ ht
    simp only [trace] at ht
    split at ht
    · rename_i v q h' hs
      split at ht
      · rename_i rs' a₃ h₃ ht'
        cases ht
        obtain ⟨q1, q2, q3, q4, q5, q6⟩ := ih ht'
        refine ⟨by simp [q1], fun i r hr => ?_, fun r hr => ?_, fun i r q hr hq => ?_, (fun e => by cases e), fun r hr => ?_⟩
        · cases i with
          | zero => simp at hr; subst hr; exact ⟨rfl, hs⟩
          | succ i => simpa using q2 i r (by simpa using hr)
        · simp at hr; subst hr; exact ⟨rfl, rfl⟩
        · cases i with
          | zero =>
            simp at hr hq; subst hr
            obtain ⟨g1, g2⟩ := q3 q (by simpa using hq)
            exact ⟨g1, g2⟩
          | succ i => exact q4 i r q (by simpa using hr) (by simpa using hq)
        · cases hrs : rs' with
          | nil =>
            subst hrs
            simp at hr; subst hr
            exact q5 rfl
          | cons r0 rs0 =>
            refine q6 r ?_
            rw [hrs] at hr ⊢
            simpa using hr
      · cases ht
    · cases ht

end

end Go.Ab

/- AbDraw4 -/
namespace Go.Ab
set_option linter.unusedVariables false
set_option linter.unusedSimpArgs false

def writesAt (rs : List Rec) (n t k : Nat) : Bool := match rs[k]? with | some r => r.o.dst == some t && decide (t < n) | none => false
def loudAt (rs : List Rec) (k : Nat) : Bool := match rs[k]? with | some r => r.q | none => false
def valT (rs : List Rec) (a : AA) (t : Nat) (q : Option Nat) : Option Value := match q with | none => a.get t | some k => match rs[k]? with | some r => some r.v | none => a.get t
def heapT (rs : List Rec) (h : AH) (q : Option Nat) : AH := match q with | none => h | some k => match rs[k]? with | some r => r.h' | none => h

theorem put_n (a : AA) (d : Option Tmp) (v : Value) : (a.put d v).n = a.n := by
  cases d with
  | none => rfl
  | some d => simp only [AA.put]; split <;> rfl

section
variable {P : Program} {call : CallF} {ops : Array Oper} {a a₂ : AA} {h h₂ : AH} {rs : List Rec}

theorem text_get (hc : CallOk P call) (ht : trace P call ops ops.toList a h = some (rs, a₂, h₂)) : ∀ (i : Nat) r, rs[i]? = some r →
    r.a.n = a.n ∧ (∀ t, r.a.get t = valT rs a t (lastB (writesAt rs a.n t) i)) ∧ r.h = heapT rs h (lastB (loudAt rs) i) := by
  obtain ⟨q1, q2, q3, q4, q5, q6⟩ := trace_get ht
  intro i
  induction i with
  | zero =>
    intro r hr
    obtain ⟨e1, e2⟩ := q3 r hr
    rw [e1, e2]
    exact ⟨rfl, fun t => rfl, rfl⟩
  | succ i ih =>
    intro r hr
    have hlt : i < rs.length := by have := (List.getElem?_eq_some_iff.1 hr).1; omega
    have hp : rs[i]? = some rs[i] := List.getElem?_eq_getElem hlt
    obtain ⟨g1, g2, g3⟩ := ih rs[i] hp
    obtain ⟨e1, e2⟩ := q4 i rs[i] r hp hr
    obtain ⟨s1, s2⟩ := q2 i rs[i] hp
    refine ⟨by rw [e1, put_n, g1], fun t => ?_, ?_⟩
    · rw [e1]
      simp only [lastB, writesAt, hp]
      cases hd : rs[i].o.dst with
      | none => simp only [AA.put]; rw [g2]; rfl
      | some d =>
        rw [AA.get_put, g1]
        by_cases hdt : d = t ∧ d < a.n
        · obtain ⟨rfl, hdn⟩ := hdt
          simp [hdn, valT, hp]
        · rw [if_neg hdt, g2]
          have : (some d == some t && decide (t < a.n)) = false := by
            rw [Bool.and_eq_false_iff]
            by_cases e : d = t
            · subst e; right; simpa using fun h => hdt ⟨rfl, h⟩
            · left; simpa using e
          rw [this]
          rfl
    · rw [e2]
      simp only [lastB, loudAt, hp]
      cases hl : rs[i].q with
      | true => simp [heapT, hp]
      | false =>
        rw [hl] at s2
        rw [quiet_step hc s2, g3]
        rfl

theorem text_end (hc : CallOk P call) (ht : trace P call ops ops.toList a h = some (rs, a₂, h₂)) :
    a₂.n = a.n ∧ (∀ t, a₂.get t = valT rs a t (lastB (writesAt rs a.n t) ops.size)) ∧ h₂ = heapT rs h (lastB (loudAt rs) ops.size) := by
  obtain ⟨q1, q2, q3, q4, q5, q6⟩ := trace_get ht
  have q1' : rs.length = ops.size := by rw [q1]; simp
  cases hn : ops.size with
  | zero =>
    have : rs = [] := by apply List.eq_nil_of_length_eq_zero; omega
    obtain ⟨rfl, rfl⟩ := q5 this
    exact ⟨rfl, fun t => rfl, rfl⟩
  | succ i =>
    have hlt : i < rs.length := by omega
    have hp : rs[i]? = some rs[i] := List.getElem?_eq_getElem hlt
    obtain ⟨g1, g2, g3⟩ := text_get hc ht i rs[i] hp
    obtain ⟨e1, e2⟩ := q6 rs[i] (by rw [q1', hn]; exact hp)
    obtain ⟨s1, s2⟩ := q2 i rs[i] hp
    refine ⟨by rw [e1, put_n, g1], fun t => ?_, ?_⟩
    · rw [e1]
      simp only [lastB, writesAt, hp]
      cases hd : rs[i].o.dst with
      | none => simp only [AA.put]; rw [g2]; rfl
      | some d =>
        rw [AA.get_put, g1]
        by_cases hdt : d = t ∧ d < a.n
        · obtain ⟨rfl, hdn⟩ := hdt
          simp [hdn, valT, hp]
        · rw [if_neg hdt, g2]
          have : (some d == some t && decide (t < a.n)) = false := by
            rw [Bool.and_eq_false_iff]
            by_cases e : d = t
            · subst e; right; simpa using fun h => hdt ⟨rfl, h⟩
            · left; simpa using e
          rw [this]
          rfl
    · rw [e2]
      simp only [lastB, loudAt, hp]
      cases hl : rs[i].q with
      | true => simp [heapT, hp]
      | false =>
        rw [hl] at s2
        rw [quiet_step hc s2, g3]
        rfl

/-- that the edges fix what the operations come to; pl: what has run ahead, whatever the order -/
structure Ordered (P : Program) (call : CallF) (ops : Array Oper) (rs : List Rec) (n : Nat) (h : AH) (pl : Nat → List Nat) : Prop where
  ahead : ∀ m i l, Good m ops (i :: l) → ∀ j ∈ pl i, j ∈ l
  tm : ∀ i k x y d, rs[i]? = some x → rs[k]? = some y → i ≠ k → y.o.dst = some d → d < n → (d ∈ readsOf ops x.o ∨ x.o.dst = some d) → (k < i → k ∈ pl i) ∧ (i < k → i ∈ pl k)
  ld : ∀ i k, loudAt rs i = true → loudAt rs k = true → k < i → k ∈ pl i
  rd : ∀ i r, rs[i]? = some r → r.q = false → ∀ q : Option Nat, (∀ l, q = some l → loudAt rs l = true) →
    (∀ p ∈ pl i, loudAt rs p = true → ∃ l, q = some l ∧ p ≤ l) → (∀ l', loudAt rs l' = true → (∃ l, q = some l ∧ l' ≤ l) → i ∉ pl l') →
    stepAt P call ops r.o r.a (heapT rs h q) = some (r.v, false, heapT rs h q)

end

end Go.Ab

/- AbDraw5 -/
namespace Go.Ab
set_option linter.unusedVariables false
set_option linter.unusedSimpArgs false

section
variable {P : Program} {call : CallF} {ops : Array Oper} {a a₂ : AA} {h h₂ : AH} {rs : List Rec}

theorem closed {pl : Nat → List Nat} (ho : Ordered P call ops rs a.n h pl) {m : Region.Mode} {acc : List Nat} (hg : Good m ops acc) {k : Nat} (hk : k ∈ acc) : ∀ j ∈ pl k, j ∈ acc := by
  intro j hj
  obtain ⟨l1, l2, rfl⟩ := List.append_of_mem hk
  have := ho.ahead m k l2 hg.drop j hj
  exact List.mem_append_right _ (List.mem_cons_of_mem _ this)

theorem last_here {pl : Nat → List Nat} (ho : Ordered P call ops rs a.n h pl) {m : Region.Mode} {i : Nat} {acc : List Nat} (hg : Good m ops (i :: acc)) (hi : i < ops.size) {p : Nat → Bool}
    (h1 : ∀ k, k < i → p k = true → k ∈ pl i) (h2 : ∀ k, i < k → p k = true → i ∈ pl k) : lastB (fun k => p k && decide (k ∈ acc)) ops.size = lastB p i := by
  have hup : ∀ k, i ≤ k → k < ops.size → (p k && decide (k ∈ acc)) = false := by
    intro k hk _
    rw [Bool.and_eq_false_iff]
    by_cases e : k = i
    · subst e; right; simpa using hg.2.1
    · cases hp : p k with
      | false => exact .inl rfl
      | true =>
        right
        have := h2 k (by omega) hp
        simp only [decide_eq_false_iff_not]
        exact fun hc => hg.2.1 (closed ho hg.1 hc i this)
  rw [lastB_cut (Nat.le_of_lt hi) hup]
  refine lastB_congr fun k hk => ?_
  cases hp : p k with
  | false => rfl
  | true => simpa using ho.ahead m i acc hg k (h1 k hk hp)

theorem last_put {pl : Nat → List Nat} (ho : Ordered P call ops rs a.n h pl) {m : Region.Mode} {i : Nat} {acc : List Nat} (hg : Good m ops (i :: acc)) (hi : i < ops.size) {p : Nat → Bool} (hp : p i = true)
    (h2 : ∀ k, i < k → p k = true → i ∈ pl k) : lastB (fun k => p k && decide (k ∈ i :: acc)) ops.size = some i := by
  refine lastB_at hi (by simp [hp]) fun k hk _ => ?_
  rw [Bool.and_eq_false_iff]
  cases hpk : p k with
  | false => exact .inl rfl
  | true =>
    right
    have := h2 k hk hpk
    simp only [decide_eq_false_iff_not, List.mem_cons, not_or]
    exact ⟨by omega, fun hc => hg.2.1 (closed ho hg.1 hc i this)⟩

theorem last_skip {i : Nat} {acc : List Nat} {p : Nat → Bool} (hp : p i = false) (n : Nat) : lastB (fun k => p k && decide (k ∈ i :: acc)) n = lastB (fun k => p k && decide (k ∈ acc)) n := by
  refine lastB_congr fun k hk => ?_
  by_cases e : k = i
  · subst e; simp [hp]
  · simp [e]

theorem draw_wp (hc : CallOk P call) (ht : trace P call ops ops.toList a h = some (rs, a₂, h₂)) {pl : Nat → List Nat} (ho : Ordered P call ops rs a.n h pl) {E : Ren} {w : World} {x : Act}
    {Q : Exit → Act → World → Prop} (r0 : RW P E h w) (rt0 : RT E a x.tmps) (hd0 : x.defers = [])
    (hQ : ∀ E' w' y, RW P E' h₂ w' → Ext E w E' w' → RT E' a₂ y.tmps → y.defers = [] → Q .normal y w') {m : Region.Mode} {l : List Nat} (hg : Good m ops l) (hl : l.length = ops.size) :
    wpOps P ops Q l.reverse x w := by
  obtain ⟨q1, q2, q3, q4, q5, q6⟩ := trace_get ht
  have q1' : rs.length = ops.size := by rw [q1]; simp
  have go : ∀ (rest acc : List Nat), Good m ops (rest.reverse ++ acc) → (rest.reverse ++ acc).length = ops.size → ∀ (E' : Ren) (w' : World) (y : Act) (aS : AA),
      RW P E' (heapT rs h (lastB (fun k => loudAt rs k && decide (k ∈ acc)) ops.size)) w' → Ext E w E' w' → RT E' aS y.tmps → aS.n = a.n →
      (∀ t, aS.get t = valT rs a t (lastB (fun k => writesAt rs a.n t k && decide (k ∈ acc)) ops.size)) → y.defers = [] → wpOps P ops Q rest y w' := by
    intro rest
    induction rest with
    | nil =>
      intro acc hga hla E' w' y aS r xt rt hn hv hd
      simp only [List.reverse_nil, List.nil_append] at hga hla
      have hall : ∀ k, k < ops.size → k ∈ acc := by
        intro k hk
        apply Classical.byContradiction
        intro hc
        have hsub : ∀ j ∈ k :: acc, j ∈ List.range ops.size := by
          intro j hj
          cases hj with
          | head => exact List.mem_range.2 hk
          | tail _ hj => exact List.mem_range.2 (hga.lt j hj)
        have := (List.nodup_cons.2 ⟨hc, hga.nodup⟩).length_le_of_subset hsub
        rw [List.length_range, List.length_cons] at this
        omega
      obtain ⟨e1, e2, e3⟩ := text_end hc ht
      have hcg : ∀ p : Nat → Bool, lastB (fun k => p k && decide (k ∈ acc)) ops.size = lastB p ops.size := fun p => lastB_congr fun k hk => by simp [hall k hk]
      simp only [wpOps]
      refine hQ E' w' y ?_ xt (rt.less (by rw [e1, hn]) fun t v hvt => ?_) hd
      · rw [e3, ← hcg]; exact r
      · rw [hv t, hcg, ← e2 t]; exact hvt
    | cons i rest ih =>
      intro acc hga hla E' w' y aS r xt rt hn hv hd
      have hga' : Good m ops (rest.reverse ++ (i :: acc)) := by simpa using hga
      have hla' : (rest.reverse ++ (i :: acc)).length = ops.size := by simpa using hla
      have hgi : Good m ops (i :: acc) := hga'.drop
      obtain ⟨o, hoi, _⟩ := hgi.2.2
      have hi : i < ops.size := (Array.getElem?_eq_some_iff.1 hoi).1
      have hri : rs[i]? = some (rs[i]'(by omega)) := List.getElem?_eq_getElem (by omega)
      generalize hr : rs[i]'(by omega) = ri at hri
      obtain ⟨s1, s2⟩ := q2 i ri hri
      have hro : ri.o = o := by
        have : some o = some ri.o := by rw [← hoi, ← s1]; simp
        exact (Option.some.inj this).symm
      obtain ⟨g1, g2, g3⟩ := text_get hc ht i ri hri
      -- what is read is what is read in the order of the text
      have hreads : ∀ t ∈ readsOf ops ri.o, aS.get t = ri.a.get t := by
        intro t ht'
        rw [hv t, g2 t]
        congr 1
        refine last_here ho hgi hi (fun k hk hp => ?_) (fun k hk hp => ?_)
        · unfold writesAt at hp
          split at hp
          · rename_i yk hyk
            simp only [Bool.and_eq_true, beq_iff_eq, decide_eq_true_eq] at hp
            exact (ho.tm i k ri yk t hri hyk (by omega) hp.1 hp.2 (.inl ht')).1 hk
          · cases hp
        · unfold writesAt at hp
          split at hp
          · rename_i yk hyk
            simp only [Bool.and_eq_true, beq_iff_eq, decide_eq_true_eq] at hp
            exact (ho.tm i k ri yk t hri hyk (by omega) hp.1 hp.2 (.inl ht')).2 hk
          · cases hp
      have hcongr := fun hh => step_congr (P := P) (call := call) (ops := ops) (o := ri.o) (hn.trans g1.symm) hreads hh
      have hli : loudAt rs i = ri.q := by simp [loudAt, hri]
      have hwi : ∀ t, writesAt rs a.n t i = (ri.o.dst == some t && decide (t < a.n)) := fun t => by simp [writesAt, hri]
      have hloudHere : ri.q = true → heapT rs h (lastB (fun k => loudAt rs k && decide (k ∈ acc)) ops.size) = ri.h := by
        intro hl
        rw [g3, last_here ho hgi hi (fun k hk hp => ho.ld i k (by rw [hli]; exact hl) hp hk) (fun k hk hp => ho.ld k i hp (by rw [hli]; exact hl) hk)]
      have hloudPut : ri.q = true → heapT rs h (lastB (fun k => loudAt rs k && decide (k ∈ i :: acc)) ops.size) = ri.h' := by
        intro hl
        rw [last_put ho hgi hi (by rw [hli]; exact hl) (fun k hk hp => ho.ld k i hp (by rw [hli]; exact hl) hk)]
        simp [heapT, hri]
      have hquietPut : ri.q = false → heapT rs h (lastB (fun k => loudAt rs k && decide (k ∈ i :: acc)) ops.size) = heapT rs h (lastB (fun k => loudAt rs k && decide (k ∈ acc)) ops.size) := by
        intro hl
        rw [last_skip (by rw [hli]; exact hl)]
      have hvals : ∀ t, (aS.put ri.o.dst ri.v).get t = valT rs a t (lastB (fun k => writesAt rs a.n t k && decide (k ∈ i :: acc)) ops.size) := by
        intro t
        by_cases hw : writesAt rs a.n t i = true
        · have hw' := hw
          rw [hwi] at hw'
          simp only [Bool.and_eq_true, beq_iff_eq, decide_eq_true_eq] at hw'
          rw [last_put ho hgi hi hw (fun k hk hp => by
            unfold writesAt at hp
            split at hp
            · rename_i yk hyk
              simp only [Bool.and_eq_true, beq_iff_eq, decide_eq_true_eq] at hp
              exact (ho.tm i k ri yk t hri hyk (by omega) hp.1 hp.2 (.inr hw'.1)).2 hk
            · cases hp)]
          rw [hw'.1, AA.get_put, hn, if_pos ⟨rfl, hw'.2⟩]
          simp [valT, hri]
        · rw [last_skip (by simpa using hw), ← hv t]
          rw [hwi] at hw
          cases hdst : ri.o.dst with
          | none => rfl
          | some d =>
            rw [AA.get_put, hn, if_neg]
            rintro ⟨rfl, hlt⟩
            exact hw (by simp [hdst, hlt])
      have hnn : ∀ v, (aS.put ri.o.dst v).n = a.n := fun v => by rw [put_n, hn]
      simp only [wpOps, hoi]
      rw [← hro]
      cases hl : ri.q with
      | true =>
        have hst : stepAt P call ops ri.o aS (heapT rs h (lastB (fun k => loudAt rs k && decide (k ∈ acc)) ops.size)) = some (ri.v, true, ri.h') := by
          rw [hloudHere hl, hcongr, s2, hl]
        exact step_wp hc hst r rt hd fun E2 w2 z p1 p2 p3 p4 => ih (i :: acc) hga' hla' E2 w2 z _ (by rw [hloudPut hl]; exact p1) (xt.trans p2) p3 (hnn _) hvals p4
      | false =>
        have hrd := ho.rd i ri hri hl (lastB (fun k => loudAt rs k && decide (k ∈ acc)) ops.size)
          (fun l hl' => by have := (lastB_some hl').2.1; simp only [Bool.and_eq_true] at this; exact this.1)
          (fun p hp hlp => by
            have hpa := ho.ahead m i acc hgi p hp
            have hps := hgi.1.lt p hpa
            cases hlast : lastB (fun k => loudAt rs k && decide (k ∈ acc)) ops.size with
            | none =>
              have := lastB_none hlast p hps
              simp [hlp, hpa] at this
            | some l => exact ⟨l, rfl, (lastB_some hlast).2.2 p hps (by simp [hlp, hpa])⟩)
          (by
            rintro l' hl' ⟨l, hlast, hle⟩ hmem
            obtain ⟨z1, z2, z3⟩ := lastB_some hlast
            simp only [Bool.and_eq_true, decide_eq_true_eq] at z2
            have hla : l' ∈ acc := by
              by_cases e : l' = l
              · rw [e]; exact z2.2
              · exact closed ho hgi.1 z2.2 l' (ho.ld l l' z2.1 hl' (by omega))
            exact hgi.2.1 (closed ho hgi.1 hla i hmem))
        rw [← hcongr] at hrd
        exact step_wp hc hrd r rt hd fun E2 w2 z p1 p2 p3 p4 => ih (i :: acc) hga' hla' E2 w2 z _ (by rw [hquietPut hl]; exact p1) (xt.trans p2) p3 (hnn _) hvals p4
  have hnone : ∀ p : Nat → Bool, lastB (fun k => p k && decide (k ∈ ([] : List Nat))) ops.size = none := by
    intro p
    have : ∀ n, lastB (fun k => p k && decide (k ∈ ([] : List Nat))) n = none := by
      intro n
      induction n with
      | zero => rfl
      | succ n ih => simp only [lastB, List.not_mem_nil, decide_false, Bool.and_false, Bool.false_eq_true, if_false]; simpa using ih
    exact this _
  refine go l.reverse [] (by simpa using hg) (by simpa using hl) E w x a (by rw [hnone]; exact r0) (.refl E w) rt0 rfl (fun t => by rw [hnone]; rfl) hd0

end

end Go.Ab

/- AbDraw6 -/
namespace Go.Ab
set_option linter.unusedVariables false
set_option linter.unusedSimpArgs false

def veq : Nat → Value → Value → Bool
  | 0, _, _ => false
  | n + 1, x, y => match x, y with
    | .bool a, .bool b => a == b
    | .int k a, .int j b => k == j && a == b
    | .float k a, .float j b => k == j && a == b
    | .complex k a c, .complex j b d => k == j && a == b && c == d
    | .string a, .string b => decide (a = b)
    | .pointer a, .pointer b => a == b
    | .slice a l c, .slice b k d => a == b && l == k && c == d
    | .map a, .map b => a == b
    | .chan a, .chan b => a == b
    | .func f a c, .func g b d => f == g && vall n a.toList b.toList && vall n c.toList d.toList
    | .nilFunc, .nilFunc => true
    | .iface t a, .iface u b => t == u && veq n a b
    | .nilIface, .nilIface => true
    | .agg a, .agg b => vall n a.toList b.toList
    | .tuple a, .tuple b => vall n a.toList b.toList
    | _, _ => false
  where
  vall (n : Nat) : List Value → List Value → Bool
    | [], [] => true
    | x :: l, y :: k => veq n x y && vall n l k
    | _, _ => false

theorem veq_eq : ∀ (n : Nat) (x y : Value), veq n x y = true → x = y := by
  intro n
  induction n with
  | zero => intro x y h; simp [veq] at h
  | succ n ih =>
    have hl : ∀ l k : List Value, veq.vall n l k = true → l = k := by
      intro l
      induction l with
      | nil => intro k h; cases k with
        | nil => rfl
        | cons => simp [veq.vall] at h
      | cons x l ihl => intro k h; cases k with
        | nil => simp [veq.vall] at h
        | cons y k =>
          simp only [veq.vall, Bool.and_eq_true] at h
          rw [ih x y h.1, ihl k h.2]
    have ha : ∀ a b : Array Value, veq.vall n a.toList b.toList = true → a = b := fun a b h => Array.ext' (hl _ _ h)
    intro x y h
    unfold veq at h
    split at h
    all_goals first
      | (simp only [Bool.and_eq_true, beq_iff_eq, decide_eq_true_eq] at h; simp_all; done)
      | skip
    all_goals first
      | rfl
      | (simp only [Bool.and_eq_true, beq_iff_eq] at h; rw [h.1.1, ha _ _ h.1.2, ha _ _ h.2])
      | (simp only [Bool.and_eq_true, beq_iff_eq] at h; rw [h.1, ih _ _ h.2])
      | (rw [ha _ _ h])
      | cases h

end Go.Ab

/- AbDraw7 -/
namespace Go.Ab
set_option linter.unusedVariables false
set_option linter.unusedSimpArgs false

/-- does it come to the same on every heap? -/
def free (o : Oper) : Bool :=
  match o.op with
  | .move _ | .assign _ | .pick .. | .build .. | .nilCheck _ | .unOp .. | .makeInterface .. | .makeFunc .. | .fieldAddr .. | .field .. | .indexAddr .. | .index .. | .typeAssert .. | .extract .. => true
  | _ => false

section
variable {P : Program} {ρ : Operand → Option Value}

theorem valH_free {h g : AH} {v : Option Value} {u : Value} (hh : valH h v = some (.val u h)) : valH g v = some (.val u g) := by
  obtain ⟨w, rfl, e⟩ := valH_eq hh
  cases e; rfl

theorem free_val {o : Oper} {h g : AH} {v : Value} (hf : free o = true) (hh : absOp P ρ o h = some (.val v h)) : absOp P ρ o g = some (.val v g) := by
  unfold free at hf
  unfold absOp at hh ⊢
  cases ho : o.op with
  | move x => simp only [ho] at hh ⊢; exact valH_free hh
  | assign x => simp only [ho] at hh ⊢; exact valH_free hh
  | pick c a b => simp only [ho] at hh ⊢; (repeat' split at hh) <;> first | (simp_all only []; exact valH_free hh) | cases hh
  | build t l => simp only [ho] at hh ⊢; (repeat' split at hh) <;> first | (simp_all only []; exact valH_free hh) | cases hh
  | nilCheck x =>
    simp only [ho] at hh ⊢
    split at hh
    · split at hh
      · rename_i hn; cases hh; rw [if_pos hn]
      · cases hh
    · cases hh
  | unOp op t x =>
    simp only [ho] at hh ⊢
    split at hh
    · split at hh
      · rename_i hn; rw [if_pos hn]; exact valH_free hh
      · cases hh
    · cases hh
  | makeInterface t x => simp only [ho] at hh ⊢; split at hh <;> first | exact valH_free hh | cases hh
  | makeFunc fn l m =>
    simp only [ho] at hh ⊢
    cases fn
    case func f =>
      simp only at hh ⊢
      split at hh
      · cases hh; rfl
      · cases hh
    all_goals (cases hh)
  | fieldAddr t x f => simp only [ho] at hh ⊢; split at hh <;> first | exact valH_free hh | cases hh
  | field t x f => simp only [ho] at hh ⊢; split at hh <;> first | exact valH_free hh | cases hh
  | indexAddr t x y => simp only [ho] at hh ⊢; split at hh <;> first | exact valH_free hh | cases hh
  | index t x y => simp only [ho] at hh ⊢; split at hh <;> first | exact valH_free hh | cases hh
  | typeAssert x a b c => simp only [ho] at hh ⊢; split at hh <;> first | exact valH_free hh | cases hh
  | extract x i => simp only [ho] at hh ⊢; split at hh <;> first | exact valH_free hh | cases hh
  | _ => simp [ho] at hf

end

theorem free_loud {P : Program} {o : Oper} (h : free o = true) : loud P o = false := by
  unfold free at h
  unfold loud
  cases ho : o.op <;> rw [ho] at h <;> first | rfl | (cases h; done)

/-- what has run ahead of each operation, whatever the order -/
def clo : List Oper → List (List Nat) → List (List Nat)
  | [], acc => acc
  | o :: l, acc => clo l (acc ++ [(o.after.toList.filter strong).flatMap fun e => e.on :: acc.getD e.on []])

theorem clo_ahead {ops : Array Oper} : ∀ (l : List Oper) (acc : List (List Nat)), ops.toList.drop acc.length = l → acc.length ≤ ops.size →
    (∀ i, ∀ j ∈ acc.getD i [], ∀ m k, Good m ops (i :: k) → j ∈ k) → ∀ i, ∀ j ∈ (clo l acc).getD i [], ∀ m k, Good m ops (i :: k) → j ∈ k := by
  intro l
  induction l with
  | nil => intro acc _ _ h; exact h
  | cons o l ih =>
    intro acc hd hle h
    have hlt : acc.length < ops.size := by
      apply Classical.byContradiction
      intro hc
      rw [List.drop_eq_nil_of_le (by simpa using Nat.le_of_not_lt hc)] at hd
      cases hd
    have ho : ops[acc.length]? = some o := by
      have : ops.toList[acc.length]? = some o := by
        rw [← List.head?_drop, hd]; rfl
      simpa using this
    refine ih _ ?_ (by simp; omega) ?_
    · rw [List.length_append, List.length_singleton, ← List.drop_drop, hd]; rfl
    · intro i j hj m k hg
      by_cases e : i < acc.length
      · rw [List.getD_eq_getElem?_getD, List.getElem?_append_left e, ← List.getD_eq_getElem?_getD] at hj
        exact h i j hj m k hg
      · by_cases e2 : i = acc.length
        · subst e2
          rw [List.getD_eq_getElem?_getD, List.getElem?_append_right (Nat.le_refl _)] at hj
          simp only [Nat.sub_self, List.getElem?_cons_zero, Option.getD_some, List.mem_flatMap, List.mem_filter] at hj
          obtain ⟨ed, ⟨he, hst⟩, hj⟩ := hj
          obtain ⟨hg1, hg2, o', ho', hg3⟩ := hg
          rw [ho] at ho'; cases ho'
          have hon := hg3 ed (by simpa using he) (strong_binds hst m)
          cases hj with
          | head => exact hon
          | tail _ hj =>
            obtain ⟨l1, l2, rfl⟩ := List.append_of_mem hon
            have := h ed.on j hj m l2 hg1.drop
            exact List.mem_append_right _ (List.mem_cons_of_mem _ this)
        · rw [List.getD_eq_getElem?_getD, List.getElem?_eq_none (by simp; omega)] at hj
          cases hj

def below (n : Nat) (f : Nat → Bool) : Bool := (List.range n).all f
theorem below_at {n : Nat} {f : Nat → Bool} (h : below n f = true) {i : Nat} (hi : i < n) : f i = true := List.all_eq_true.1 h i (List.mem_range.2 hi)

/-- the part of the check that hangs on the code alone -/
def staticB (ops : Array Oper) : Bool :=
  backs ops &&
  (let pl := clo ops.toList []
   below ops.size fun i => below ops.size fun k => i == k || match ops[i]?, ops[k]? with
    | some x, some y =>
      (match y.dst with
        | none => true
        | some d => if (readsOf ops x).contains d || x.dst == some d then (if k < i then (pl.getD i []).contains k else (pl.getD k []).contains i) else true)
    | _, _ => true)

/-- can an operation run when just the loud ones up to q have? -/
def feasible (rs : List Rec) (pl : List (List Nat)) (i : Nat) (q : Option Nat) : Bool :=
  ((pl.getD i []).all fun p => !loudAt rs p || (match q with | some l => decide (p ≤ l) | none => false)) &&
  (match q with | some l => below (l + 1) fun l' => !loudAt rs l' || !(pl.getD l' []).contains i | none => true)

def sameAt (P : Program) (call : CallF) (ops : Array Oper) (rs : List Rec) (h : AH) (r : Rec) (q : Option Nat) : Bool :=
  match stepAt P call ops r.o r.a (heapT rs h q) with
  | some (v, false, _) => veq 12 v r.v
  | _ => false

/-- what comes to the same on every heap -/
def freeRec (ops : Array Oper) (r : Rec) : Bool := (free r.o && !loudOp r.o) || !Region.wanted r.o (r.a.yielded ops)
  where loudOp (o : Oper) : Bool := match o.op with | .call _ => true | _ => false

/-- the part that hangs on the run: what may change the heap is in order, and what doesn't yields the same wherever it may run -/
def dynB (P : Program) (call : CallF) (ops : Array Oper) (rs : List Rec) (h : AH) (pl : List (List Nat)) : Bool :=
  (below rs.length fun i => !loudAt rs i || below i fun k => !loudAt rs k || (pl.getD i []).contains k) &&
  below rs.length fun i => match rs[i]? with
    | some r => r.q || freeRec ops r ||
      (let t := lastB (loudAt rs) i
       (t == none || !feasible rs pl i none || sameAt P call ops rs h r none) && below rs.length fun l => !loudAt rs l || t == some l || !feasible rs pl i (some l) || sameAt P call ops rs h r (some l))
    | none => true

def drawRun (P : Program) (call : CallF) (ops : Array Oper) (a : AA) (h : AH) : Option (AA × AH) :=
  if staticB ops then match trace P call ops ops.toList a h with
    | some (rs, a₂, h₂) => if dynB P call ops rs h (clo ops.toList []) then some (a₂, h₂) else none
    | none => none
  else none

theorem drawRun_ok {P : Program} {call : CallF} (hc : CallOk P call) {ops : Array Oper} {a a₂ : AA} {h h₂ : AH} (hd : drawRun P call ops a h = some (a₂, h₂)) {id : Nat} {E : Ren} {w : World} {x : Act}
    {Q : Exit → Act → World → Prop} (r : RW P E h w) (rt : RT E a x.tmps) (hdf : x.defers = [])
    (hQ : ∀ E' w' y, RW P E' h₂ w' → Ext E w E' w' → RT E' a₂ y.tmps → y.defers = [] → Q .normal y w') : (Code.region id ops true).wp P Q x w := by
  unfold drawRun at hd
  split at hd
  case isFalse => cases hd
  rename_i hst
  split at hd
  case h_2 => cases hd
  rename_i rs a₃ h₃ ht
  split at hd
  case isFalse => cases hd
  rename_i hdy
  cases hd
  unfold staticB at hst
  simp only [Bool.and_eq_true] at hst
  obtain ⟨hback, hst⟩ := hst
  unfold dynB at hdy
  rw [Bool.and_eq_true] at hdy
  obtain ⟨hld, hdy⟩ := hdy
  obtain ⟨q1, q2, q3, q4, q5, q6⟩ := trace_get ht
  have q1' : rs.length = ops.size := by rw [q1]; simp
  have hops : ∀ (i : Nat) y, rs[i]? = some y → ops[i]? = some y.o ∧ i < ops.size := by
    intro i y hy
    refine ⟨?_, by have := (List.getElem?_eq_some_iff.1 hy).1; omega⟩
    have := (q2 i y hy).1
    simpa using this
  have hpair : ∀ i k x y, rs[i]? = some x → rs[k]? = some y → i ≠ k →
      (∀ d, y.o.dst = some d → (d ∈ readsOf ops x.o ∨ x.o.dst = some d) → (k < i → k ∈ (clo ops.toList []).getD i []) ∧ (i < k → i ∈ (clo ops.toList []).getD k [])) := by
    intro i k x y hx hy hne d hd hr
    obtain ⟨o1, l1⟩ := hops i x hx
    obtain ⟨o2, l2⟩ := hops k y hy
    have t1 := below_at (below_at hst l1) l2
    simp only [o1, o2, Bool.or_eq_true, beq_iff_eq, hne, false_or] at t1
    rw [hd] at t1
    simp only at t1
    rw [if_pos (by simpa using hr)] at t1
    refine ⟨fun hk => ?_, fun hk => ?_⟩
    · rw [if_pos hk] at t1; simpa using t1
    · rw [if_neg (by omega)] at t1; simpa using t1
  have hlt : ∀ i, loudAt rs i = true → i < rs.length := by
    intro i hi
    unfold loudAt at hi
    split at hi
    · rename_i y hy; exact (List.getElem?_eq_some_iff.1 hy).1
    · cases hi
  have hord : Ordered P call ops rs a.n h fun i => (clo ops.toList []).getD i [] := by
    refine ⟨fun m i l hg j hj => clo_ahead ops.toList [] (by simp) (by simp) (fun i j hj => by simp at hj) i j hj m l hg, fun i k x y d hx hy hne hd hlt hr => hpair i k x y hx hy hne d hd hr, fun i k hi hk hki => ?_, ?_⟩
    · have := below_at hld (hlt i hi)
      rw [hi] at this
      simp only [Bool.not_true, Bool.false_or] at this
      have := below_at this hki
      rw [hk] at this
      simpa using this
    · intro i r hr hq q hql hf1 hf2
      obtain ⟨o1, l1⟩ := hops i r hr
      obtain ⟨s1, s2⟩ := q2 i r hr
      obtain ⟨g1, g2, g3⟩ := text_get hc ht i r hr
      rw [hq] at s2
      have hh := quiet_step hc s2
      rw [hh] at s2
      have hdy' := below_at hdy (q1' ▸ l1)
      rw [hr] at hdy'
      simp only [hq, Bool.false_or, Bool.or_eq_true, Bool.and_eq_true] at hdy'
      rcases hdy' with hfree | ⟨hn, hs⟩
      · -- the same on every heap
        unfold stepAt at s2 ⊢
        split at s2
        case isFalse => cases s2
        rename_i hk
        rw [if_pos hk]
        split at s2
        · rename_i hw
          rw [if_pos hw]
          unfold freeRec at hfree
          rw [hw] at hfree
          simp only [Bool.not_true, Bool.or_false, Bool.and_eq_true] at hfree
          split at s2
          · rename_i u g hop
            have e1 : u = r.v := congrArg (fun x => x.1) (Option.some.inj s2)
            have e2 : loud P r.o = false := congrArg (fun x => x.2.1) (Option.some.inj s2)
            have e3 : g = r.h := congrArg (fun x => x.2.2) (Option.some.inj s2)
            subst e1
            rw [e3] at hop
            rw [free_val hfree.1 hop, e2]
          · exact absurd (congrArg (fun x => x.2.1) (Option.some.inj s2)) (by simp)
          · rename_i f args g hop
            obtain ⟨u, hu⟩ := quiet_val (free_loud hfree.1) hop
            cases hu
          · cases s2
        · rename_i hw
          rw [if_neg hw]
          have ev : undef = r.v := congrArg (fun x => x.1) (Option.some.inj s2)
          rw [← ev]
      · have fin : sameAt P call ops rs h r q = true → stepAt P call ops r.o r.a (heapT rs h q) = some (r.v, false, heapT rs h q) := by
          intro hsame
          unfold sameAt at hsame
          split at hsame
          · rename_i v g hop
            rw [hop, quiet_step hc hop, veq_eq _ _ _ hsame]
          · cases hsame
        have text : lastB (loudAt rs) i = q → stepAt P call ops r.o r.a (heapT rs h q) = some (r.v, false, heapT rs h q) := by
          intro e
          rw [← e, ← g3]; exact s2
        have hfeas : feasible rs (clo ops.toList []) i q = true := by
          unfold feasible
          simp only [Bool.and_eq_true, List.all_eq_true, Bool.or_eq_true, Bool.not_eq_true']
          refine ⟨fun p hp => ?_, ?_⟩
          · cases hlp : loudAt rs p with
            | false => exact .inl rfl
            | true =>
              right
              obtain ⟨l, rfl, hle⟩ := hf1 p hp hlp
              simpa using hle
          · cases q with
            | none => rfl
            | some l =>
              simp only [below, List.all_eq_true, List.mem_range, Bool.or_eq_true, Bool.not_eq_true']
              intro l' hl'
              cases hlp : loudAt rs l' with
              | false => exact .inl rfl
              | true =>
                right
                have := hf2 l' hlp ⟨l, rfl, by omega⟩
                simpa using this
        cases q with
        | none =>
          rcases hn with (e | e) | e
          · exact text (by simpa using e)
          · rw [hfeas] at e; cases e
          · exact fin e
        | some l =>
          have hll := hql l rfl
          have := below_at hs (hlt l hll)
          simp only [hll, hfeas, Bool.not_true, Bool.false_or, Bool.or_false, Bool.or_eq_true] at this
          rcases this with e | e
          · exact text (by simpa using e)
          · exact fin e
  refine wp_region_draw fun t => ?_
  obtain ⟨m, l, e, hg, hl⟩ := schedule_good (mixed := P.follows .mixedOrders) hback t
  rw [e]
  have rd : RW P E h { w with drawn := w.drawn + 1 } := r.of_heap rfl
  exact draw_wp hc ht hord rd rt hdf (fun E' w' y p1 p2 p3 p4 => hQ E' w' y p1 (p2.of_heap rfl rfl rfl rfl (Nat.le_succ _)) p3 p4) hg hl

/-- what is put is in the log -/
def CallLogs (call : CallF) : Prop := ∀ f args h v q h', call f args h = some (v, q, h') → Logs h h'

theorem step_logs {P : Program} {call : CallF} (hl : CallLogs call) {ops : Array Oper} {o : Oper} {a : AA} {h h' : AH} {v : Value} {q : Bool} (hs : stepAt P call ops o a h = some (v, q, h')) : Logs h h' := by
  unfold stepAt at hs
  split at hs
  case isFalse => cases hs
  split at hs
  · split at hs
    · rename_i u g hop; cases hs; exact absOp_logs hop
    · rename_i g hop; cases hs; exact absOp_logs hop
    · rename_i f args g hop; exact (absOp_logs hop).trans (hl f args g v q h' hs)
    · cases hs
  · cases hs; exact .refl _

theorem trace_logs {P : Program} {call : CallF} (hl : CallLogs call) {ops : Array Oper} : ∀ {l : List Oper} {a : AA} {h : AH} {rs : List Rec} {a₂ : AA} {h₂ : AH}, trace P call ops l a h = some (rs, a₂, h₂) → Logs h h₂ := by
  intro l
  induction l with
  | nil => intro a h rs a₂ h₂ ht; cases ht; exact .refl _
  | cons o l ih =>
    intro a h rs a₂ h₂ ht
    simp only [trace] at ht
    split at ht
    · rename_i v q h' hs
      split at ht
      · rename_i rs' a₃ h₃ ht'
        cases ht
        exact (step_logs hl hs).trans (ih ht')
      · cases ht
    · cases ht

theorem drawRun_logs {P : Program} {call : CallF} (hl : CallLogs call) {ops : Array Oper} {a a₂ : AA} {h h₂ : AH} (hd : drawRun P call ops a h = some (a₂, h₂)) : Logs h h₂ := by
  unfold drawRun at hd
  split at hd
  case isFalse => cases hd
  split at hd
  case h_2 => cases hd
  rename_i rs a₃ h₃ ht
  split at hd
  case isFalse => cases hd
  cases hd
  exact trace_logs hl ht

theorem absOps_logs {P : Program} {call : CallF} (hl : CallLogs call) {ops : Array Oper} : ∀ (l : List Nat) {a : AA} {h : AH} {a₂ : AA} {h₂ : AH}, absOps P call ops l a h = some (a₂, h₂) → Logs h h₂ := by
  intro l
  induction l with
  | nil => intro a h a₂ h₂ hh; cases hh; exact .refl _
  | cons i rest ih =>
    intro a h a₂ h₂ hh
    simp only [absOps] at hh
    split at hh
    · exact ih hh
    · split at hh
      case isFalse => cases hh
      split at hh
      · split at hh
        · rename_i hop; exact (absOp_logs hop).trans (ih hh)
        · rename_i hop; exact (absOp_logs hop).trans (ih hh)
        · rename_i f args h' hop
          split at hh
          · rename_i v q h'' hcall; exact ((absOp_logs hop).trans (hl _ _ _ _ _ _ hcall)).trans (ih hh)
          · cases hh
        · cases hh
      · exact ih hh

end Go.Ab

/- AbFn -/
namespace Go.Ab
set_option linter.unusedVariables false
set_option linter.unusedSimpArgs false

def codeA (P : Program) (call : CallF) (k : Nat) : Code → AA → AH → Option (AX × AA × AH)
  | .skip, a, h | .label _, a, h => some (.normal, a, h)
  | .region _ ops draw, a, h => match (if draw then drawRun P call ops a h else absOps P call ops (List.range ops.size) a h) with
    | some (a', h') => some (.normal, a', h')
    | none => none
  | .seq x y, a, h => match codeA P call k x a h with
    | some (.normal, a', h') => codeA P call k y a' h'
    | r => r
  | .cond c x y, a, h => match a.opnd P c with
    | some (.bool true) => codeA P call k x a h
    | some (.bool false) => codeA P call k y a h
    | _ => none
  | .block id x, a, h => match codeA P call k x a h with
    | some (.exit j, a', h') => if j = id then some (.normal, a', h') else some (.exit j, a', h')
    | r => r
  | .loop x, a, h => loopN (codeA P call k x) k a h
  | .exit id, a, h => some (.exit id, a, h)
  | .goto l, a, h => some (.goto l, a, h)
  | .ret, a, h => some (.ret, a, h)
  | _, _, _ => none

def fnA (P : Program) : Nat → CallF
  | 0, _, _, _ => none
  | n + 1, f, args, h =>
    match P.funcs[f]? with
    | some fn => match fn.body with
      | some c => match codeA P (fnA P n) n c ⟨tmsOf 0 args.toList .leaf, args.size + (fn.ntmps - args.size)⟩ { h with log := [] } with
        | some (.normal, a, h') | some (.ret, a, h') => match resultsOf P a h' fn.results.toList with
          | some vs => some (oneOf vs, tidy h h' (oneOf vs))
          | none => none
        | _ => none
      | none => none
    | none => none

theorem codeA_ok {P : Program} {call : CallF} (hc : CallOk P call) (k : Nat) : ∀ c : Code, CodeOk P c (codeA P call k c) := by
  intro c
  induction c with
  | skip =>
    intro a h e a₂ h₂ hh E w x Q r rt hd hQ
    cases hh
    exact wp_skip (hQ E w x r (.refl E w) rt hd)
  | label l =>
    intro a h e a₂ h₂ hh E w x Q r rt hd hQ
    cases hh
    exact wp_label (hQ E w x r (.refl E w) rt hd)
  | region id ops draw =>
    intro a h e a₂ h₂ hh E w x Q r rt hd hQ
    simp only [codeA] at hh
    split at hh
    · rename_i a' h' hops
      cases hh
      cases draw
      · exact wp_region (absOps_wp hc _ (by simpa using hops) r rt hd hQ)
      · exact drawRun_ok hc (by simpa using hops) r rt hd hQ
    · cases hh
  | seq p q ihp ihq =>
    intro a h e a₂ h₂ hh E w x Q r rt hd hQ
    simp only [codeA] at hh
    split at hh
    · rename_i a' h' hp
      exact wp_seq (ihp hp r rt hd fun E' w' y q1 q2 q3 q4 => ihq hh q1 q3 q4 fun E'' w'' y' p1 p2 p3 p4 => hQ E'' w'' y' p1 (q2.trans p2) p3 p4)
    · rename_i hne
      refine wp_seq (ihp hh r rt hd fun E' w' y q1 q2 q3 q4 => ?_)
      have := hQ E' w' y q1 q2 q3 q4
      cases e with
      | normal => exact absurd hh (hne _ _)
      | _ => exact this
  | cond c p q ihp ihq =>
    intro a h e a₂ h₂ hh E w x Q r rt hd hQ
    simp only [codeA] at hh
    split at hh
    · rename_i hb
      have hv := rt.opnd r c _ hb
      generalize hx : x.eval c = u at hv
      cases hv
      exact wp_cond_true hx (ihp hh r rt hd hQ)
    · rename_i hb
      have hv := rt.opnd r c _ hb
      generalize hx : x.eval c = u at hv
      cases hv
      exact wp_cond_false hx (ihq hh r rt hd hQ)
    · cases hh
  | block id p ihp =>
    intro a h e a₂ h₂ hh E w x Q r rt hd hQ
    simp only [codeA] at hh
    split at hh
    · rename_i j a' h' hp
      refine wp_block (ihp hp r rt hd fun E' w' y q1 q2 q3 q4 => ?_)
      simp only [AX.toExit, Exit.inBlock]
      split at hh
      · rename_i e; rw [if_pos e]; cases hh; exact hQ E' w' y q1 q2 q3 q4
      · rename_i e; rw [if_neg e]; cases hh; exact hQ E' w' y q1 q2 q3 q4
    · rename_i hne
      refine wp_block (ihp hh r rt hd fun E' w' y q1 q2 q3 q4 => ?_)
      have := hQ E' w' y q1 q2 q3 q4
      cases e with
      | exit j => exact absurd hh (hne _ _ _)
      | _ => exact this
  | loop p ihp => exact loopN_ok ihp k
  | exit id =>
    intro a h e a₂ h₂ hh E w x Q r rt hd hQ
    cases hh
    exact wp_exit (hQ E w x r (.refl E w) rt hd)
  | goto l =>
    intro a h e a₂ h₂ hh E w x Q r rt hd hQ
    cases hh
    exact wp_goto (hQ E w x r (.refl E w) rt hd)
  | ret =>
    intro a h e a₂ h₂ hh E w x Q r rt hd hQ
    cases hh
    exact wp_ret (hQ E w x r (.refl E w) rt hd)
  | _ =>
    intro a h e a₂ h₂ hh
    cases hh

theorem loopN_logs {f : AA → AH → Option (AX × AA × AH)} (hf : ∀ {a h e a' h'}, f a h = some (e, a', h') → Logs h h') : ∀ k {a h e a' h'}, loopN f k a h = some (e, a', h') → Logs h h' := by
  intro k
  induction k with
  | zero => intro a h e a' h' hh; cases hh
  | succ k ih =>
    intro a h e a' h' hh
    simp only [loopN] at hh
    split at hh
    · rename_i a1 h1 hb; exact (hf hb).trans (ih hh)
    · exact hf hh

theorem codeA_logs {P : Program} {call : CallF} (hl : CallLogs call) (k : Nat) : ∀ (c : Code) {a h e a' h'}, codeA P call k c a h = some (e, a', h') → Logs h h' := by
  intro c
  induction c with
  | region id ops draw =>
    intro a h e a' h' hh
    simp only [codeA] at hh
    split at hh
    · rename_i a1 h1 hops
      cases hh
      cases draw
      · exact absOps_logs hl _ (by simpa using hops)
      · exact drawRun_logs hl (by simpa using hops)
    · cases hh
  | seq p q ihp ihq =>
    intro a h e a' h' hh
    simp only [codeA] at hh
    split at hh
    · rename_i a1 h1 hp; exact (ihp hp).trans (ihq hh)
    · exact ihp hh
  | cond c p q ihp ihq =>
    intro a h e a' h' hh
    simp only [codeA] at hh
    split at hh
    · exact ihp hh
    · exact ihq hh
    · cases hh
  | block id p ihp =>
    intro a h e a' h' hh
    simp only [codeA] at hh
    split at hh
    · rename_i j a1 h1 hp
      split at hh <;> (cases hh; exact ihp hp)
    · exact ihp hh
  | loop p ihp =>
    intro a h e a' h' hh
    exact loopN_logs (fun hb => ihp hb) k hh
  | skip => intro a h e a' h' hh; cases hh; exact .refl _
  | label l => intro a h e a' h' hh; cases hh; exact .refl _
  | exit id => intro a h e a' h' hh; cases hh; exact .refl _
  | goto l => intro a h e a' h' hh; cases hh; exact .refl _
  | ret => intro a h e a' h' hh; cases hh; exact .refl _
  | _ => intro a h e a' h' hh; cases hh

theorem fnA_logs (P : Program) : ∀ n, CallLogs (fnA P n) := by
  intro n
  induction n with
  | zero => intro f args h v q h' hh; cases hh
  | succ n ih =>
    intro f args h v q h' hh
    simp only [fnA] at hh
    repeat' split at hh
    all_goals first
      | (cases hh; done)
      | (rename_i hcode _ vs hvs
         have hlg := codeA_logs ih n _ hcode
         have ht := (tidy_logs (h₀ := h) (v := oneOf vs) hlg).1
         have e2 := congrArg (fun x => x.2.2) (Option.some.inj hh)
         simp only at e2
         rw [← e2]
         exact ht)

theorem fnA_ok (P : Program) : ∀ n, CallOk P (fnA P n) := by
  intro n
  induction n with
  | zero => intro f args h v q h' hh; cases hh
  | succ n ih =>
    intro f args h v q h' hh
    simp only [fnA] at hh
    split at hh
    case h_2 => cases hh
    rename_i fn hf
    split at hh
    case h_2 => cases hh
    rename_i c hb
    have fin : ∀ (e : AX) (a : AA) (hx : AH), (e = .normal ∨ e = .ret) → codeA P (fnA P n) n c ⟨tmsOf 0 args.toList .leaf, args.size + (fn.ntmps - args.size)⟩ { h with log := [] } = some (e, a, hx) →
        (∃ vs, resultsOf P a hx fn.results.toList = some vs ∧ v = oneOf vs ∧ (q, h') = tidy h hx (oneOf vs)) →
        (q = false → h' = h) ∧ ∀ E w args', RW P E h w → RA E args args' → Calls P f args' w fun e w' => ∃ E' v', e = .returned v' ∧ RW P E' h' w' ∧ Ext E w E' w' ∧ RV E' v v' := by
      rintro e a hx he hcode ⟨vs, h1, rfl, ht⟩
      have hlg := codeA_logs (fnA_logs P n) n c hcode
      have e1 : q = (tidy h hx (oneOf vs)).1 := congrArg Prod.fst ht
      have e2 : h' = (tidy h hx (oneOf vs)).2 := congrArg Prod.snd ht
      refine ⟨fun hq => by rw [e2]; exact (tidy_logs hlg).2 (e1 ▸ hq), fun E w args' r ra => ?_⟩
      refine calls_of_wp hf hb ?_
      have hst := RT.start ra fn.ntmps
      have r0 : RW P E { h with log := [] } w := r.less (Nat.le_refl _) fun k y hk => hk
      refine codeA_ok ih n c hcode r0 hst rfl fun E' w' y q1 q2 q3 q4 => ?_
      obtain ⟨v', g1, g2⟩ := results_run q1 q3 h1
      obtain ⟨E2, p1, p2, p3⟩ := tidy_ok r q1 q2 g2 hlg
      rw [← e2] at p1
      rcases he with rfl | rfl <;> exact ⟨q4, v', g1, E2, v', rfl, p1, p2, p3⟩
    split at hh
    · rename_i a hx hcode
      split at hh
      · rename_i vs hvs
        exact fin .normal a hx (.inl rfl) hcode ⟨vs, hvs, (congrArg Prod.fst (Option.some.inj hh)).symm, (congrArg Prod.snd (Option.some.inj hh)).symm⟩
      · cases hh
    · rename_i a hx hcode
      split at hh
      · rename_i vs hvs
        exact fin .ret a hx (.inr rfl) hcode ⟨vs, hvs, (congrArg Prod.fst (Option.some.inj hh)).symm, (congrArg Prod.snd (Option.some.inj hh)).symm⟩
      · cases hh
    · cases hh

end Go.Ab

/- AbOpen -/
namespace Go.Ab
set_option linter.unusedVariables false
set_option linter.unusedSimpArgs false

/-- kinds of data: whole numbers, truth values, texts, slices, arrays, structs (a chain of cons, ended by nil) -/
inductive Ty where
  | int (k : IntKind)
  | bool
  | str
  | slice (t : Ty)
  | arr (n : Nat) (t : Ty)
  | nil
  | cons (t r : Ty)

abbrev Ty.T : Ty → Type
  | .int _ => Int
  | .bool => Bool
  | .str => ByteArray
  | .slice t => Option (List t.T)
  | .arr _ t => List t.T
  | .nil => Unit
  | .cons t r => t.T × r.T

/-- one value out of cells -/
def Ty.one : Ty → List Value → Value
  | .arr _ _, l | .nil, l | .cons _ _, l => .agg l.toArray
  | _, l => l.headD undef

/-- the cells of a datum -/
def Ty.enc : (t : Ty) → t.T → List Value
  | .int k, n => [.int k n]
  | .bool, b => [.bool b]
  | .str, s => [.string s]
  | .slice _, none => [.slice none 0 0]
  | .slice t, some l => [VSl (l.map fun x => t.one (t.enc x))]
  | .arr _ t, l => l.flatMap t.enc
  | .nil, _ => []
  | .cons t r, x => t.enc x.1 ++ r.enc x.2

/-- the value of a datum -/
def Ty.val (t : Ty) (x : t.T) : Value := t.one (t.enc x)

/-- in bounds -/
def Ty.WF : (t : Ty) → t.T → Prop
  | .int k, n => (Lit.int k n).wf = true
  | .bool, _ => True
  | .str, s => s.size ≤ maxLen
  | .slice _, none => True
  | .slice t, some l => ∀ x ∈ l, t.WF x
  | .arr n t, l => l.length = n ∧ ∀ x ∈ l, t.WF x
  | .nil, _ => True
  | .cons t r, x => t.WF x.1 ∧ r.WF x.2

/-- how much there is to read -/
def Ty.bulk : (t : Ty) → t.T → Nat
  | .int _, _ => 1
  | .bool, _ => 1
  | .str, s => s.size + 1
  | .slice _, none => 1
  | .slice t, some l => (l.map t.bulk).sum + 1
  | .arr _ t, l => (l.map t.bulk).sum + 1
  | .nil, _ => 0
  | .cons t r, x => t.bulk x.1 + r.bulk x.2

/-- is the program's type of that kind? (ctx: what is left of a struct's fields) -/
def Ty.has (P : Program) : Ty → Option (List Field × Nat × Nat) → TypeId → Bool
  | .int k, none, t => match P.underlying t with | some (.int k') => k == k' && P.cellsOf t == 1 | _ => false
  | .bool, none, t => match P.underlying t with | some .bool => P.cellsOf t == 1 | _ => false
  | .str, none, t => match P.underlying t with | some .string => P.cellsOf t == 1 | _ => false
  | .slice e, none, t => match P.underlying t with | some (.slice e') => e.has P none e' && decide (0 < P.cellsOf e') && P.cellsOf t == 1 | _ => false
  | .arr n e, none, t => match P.underlying t with | some (.array m e') => m == n && e.has P none e' && P.cellsOf t == n * P.cellsOf e' | _ => false
  | .nil, some (fs, off, tot), _ => fs.isEmpty && off == tot
  | .nil, none, t => match P.underlying t with | some (.struct fs) => fs.isEmpty && P.cellsOf t == 0 | _ => false
  | .cons a r, some (fs, off, tot), _ => match fs with
    | f :: fs => f.offset == off && a.has P none f.type && r.has P (some (fs, off + P.cellsOf f.type, tot)) 0
    | [] => false
  | .cons a r, none, t => match P.underlying t with
    | some (.struct fs) => match fs.toList with
      | f :: rest => f.offset == 0 && a.has P none f.type && r.has P (some (rest, P.cellsOf f.type, P.cellsOf t)) 0
      | [] => false
    | _ => false
  | _, _, _ => false

/-- cells that lie alike -/
inductive CR (E : Ren) : List Value → List Value → Prop
  | nil : CR E [] []
  | cons {v v' : Value} {l l' : List Value} (h : RV E v v') (t : CR E l l') : CR E (v :: l) (v' :: l')

theorem CR.append {E : Ren} {a a' b b' : List Value} (h : CR E a a') (k : CR E b b') : CR E (a ++ b) (a' ++ b') := by
  induction h with
  | nil => exact k
  | cons h _ ih => exact .cons h ih

theorem CR.length {E : Ren} {a a' : List Value} (h : CR E a a') : a.length = a'.length := by
  induction h with
  | nil => rfl
  | cons _ _ ih => simp [ih]

theorem CR.get {E : Ren} {a a' : List Value} (h : CR E a a') : ∀ (i : Nat) v v', a[i]? = some v → a'[i]? = some v' → RV E v v' := by
  induction h with
  | nil => intro i v v' h; simp at h
  | cons h _ ih =>
    intro i v v' h1 h2
    cases i with
    | zero => simp at h1 h2; subst h1 h2; exact h
    | succ i => exact ih i v v' (by simpa using h1) (by simpa using h2)

theorem CR.ra {E : Ren} {a a' : List Value} (h : CR E a a') : RA E a.toArray a'.toArray := ⟨by simpa using h.length, fun i v v' h1 h2 => h.get i v v' (by simpa using h1) (by simpa using h2)⟩

/-- every row of the world stays as it is -/
def stillR (P : Program) (w : World) : Ren where
  at_ k := if k < P.globals.size then some k else none
  soft _ := none
  fro b := match w.heap[b]? with | some (.cells c _ _) => some c | _ => none

/-- how bulk is told -/
structure Bulky {H : Type} (B : DataW H → Nat) (BA : List (DataW H) → Nat) : Prop where
  str : ∀ s, B (.lit (.string s)) = s.length + 1
  lit : ∀ l, 1 ≤ B (.lit l)
  nil : B .nil = 1
  slice : ∀ e s, B (.slice e s) = BA e + BA s + 1
  agg : ∀ p, B (.agg p) = BA p + 1
  none : BA [] = 0
  cons : ∀ d r, BA (d :: r) = B d + BA r

section
variable {H : Type} {E₀ : TypeId × Value → H} {P : Program} {w : World} {sp : Nat → Bool} {held : Bool} {B : DataW H → Nat} {BA : List (DataW H) → Nat}

theorem sum_le {α : Type} {f : α → Nat} {xs : List (DataW H × List MemPlace)} {l : List α} (hB : Bulky B BA) (hl : l.length = xs.length) (h : ∀ (i : Nat) x d, l[i]? = some x → xs[i]? = some d → f x ≤ B d.1) :
    (l.map f).sum ≤ BA (xs.map (·.1)) := by
  induction xs generalizing l with
  | nil => cases l with
    | nil => simp
    | cons => simp at hl
  | cons x xs ih =>
    cases l with
    | nil => simp at hl
    | cons y l =>
      rw [List.map_cons, List.sum_cons, List.map_cons, hB.cons]
      exact Nat.add_le_add (h 0 y x (by simp) (by simp)) (ih (by simpa using hl) fun i a b ha hb => h (i + 1) a b (by simpa using ha) (by simpa using hb))

theorem mapM_get {α β : Type} {f : α → Option β} : ∀ {l : List α} {r : List β}, l.mapM f = some r → l.length = r.length ∧ ∀ (i : Nat) x, l[i]? = some x → ∃ y, f x = some y ∧ r[i]? = some y := by
  intro l
  induction l with
  | nil => intro r h; simp at h; subst h; exact ⟨rfl, fun i x hx => by simp at hx⟩
  | cons a l ih =>
    intro r h
    rw [List.mapM_cons] at h
    cases ha : f a with
    | none => rw [ha] at h; cases h
    | some y =>
      rw [ha] at h
      cases hr : l.mapM f with
      | none => rw [hr] at h; cases h
      | some r' =>
        rw [hr] at h
        simp at h
        subst h
        obtain ⟨h1, h2⟩ := ih hr
        refine ⟨by simp [h1], fun i x hx => ?_⟩
        cases i with
        | zero => simp at hx; subst hx; exact ⟨y, ha, by simp⟩
        | succ i => simpa using h2 i x (by simpa using hx)

/-- the cells at an address -/
theorem cells_get {a : Addr} {n : Nat} {cs : List Value} (h : w.cells? 0 a n = some cs) : cs.length = n ∧ (0 < n → a.spot = none ∧ ∃ c e fz, w.heap[a.block]? = some (.cells c e fz) ∧ a.off + n ≤ c.size ∧ ∀ i, i < n → c[a.off + i]? = cs[i]?) := by
  unfold World.cells? at h
  rw [if_pos (Nat.zero_le _)] at h
  obtain ⟨h1, h2⟩ := mapM_get h
  rw [List.length_range] at h1
  refine ⟨h1.symm, fun hn => ?_⟩
  obtain ⟨v, hv, _⟩ := h2 0 0 (by rw [List.getElem?_range hn])
  rw [show a.add 0 = a from rfl] at hv
  have hsp : a.spot = none := by
    unfold World.cell? at hv
    split at hv
    · split at hv
      · cases hv
      · rename_i hs; simpa using hs
    · cases hv
  refine ⟨hsp, ?_⟩
  obtain ⟨b, off, spot⟩ := a
  simp only at hsp
  subst hsp
  unfold World.cell? at hv
  split at hv
  · rename_i c e fz hb
    refine ⟨c, e, fz, hb, ?_, fun i hi => ?_⟩
    · obtain ⟨u, hu, _⟩ := h2 (n - 1) (n - 1) (by rw [List.getElem?_range (by omega)])
      rw [add_off] at hu
      unfold World.cell? at hu
      simp only at hb hu
      rw [hb] at hu
      simp at hu
      have := (Array.getElem?_eq_some_iff.1 hu).1
      show off + n ≤ c.size
      omega
    · obtain ⟨u, hu, hg⟩ := h2 i i (by rw [List.getElem?_range hi])
      rw [add_off] at hu
      unfold World.cell? at hu
      simp only at hb hu
      rw [hb] at hu
      simp at hu
      rw [hu, hg]
  · cases hv

theorem one_size {P : Program} : ∀ (ty : Ty) (l : List Value), (∀ t, ty.has P none t = true → l.length = P.cellsOf t → (ty.one l).cells.toList = l ∨ ∃ v, l = [v] ∧ ty.one l = v) := by
  intro ty l t ht hl
  cases ty with
  | arr n t => left; rfl
  | nil => left; rfl
  | cons t r => left; rfl
  | int k =>
    right
    simp only [Ty.has] at ht
    split at ht
    · simp only [Bool.and_eq_true, beq_iff_eq] at ht
      rw [ht.2] at hl
      obtain ⟨v, rfl⟩ := List.length_eq_one_iff.1 hl
      exact ⟨v, rfl, rfl⟩
    · cases ht
  | bool =>
    right
    simp only [Ty.has] at ht
    split at ht
    · simp only [beq_iff_eq] at ht
      rw [ht] at hl
      obtain ⟨v, rfl⟩ := List.length_eq_one_iff.1 hl
      exact ⟨v, rfl, rfl⟩
    · cases ht
  | str =>
    right
    simp only [Ty.has] at ht
    split at ht
    · simp only [beq_iff_eq] at ht
      rw [ht] at hl
      obtain ⟨v, rfl⟩ := List.length_eq_one_iff.1 hl
      exact ⟨v, rfl, rfl⟩
    · cases ht
  | slice e =>
    right
    simp only [Ty.has] at ht
    split at ht
    · simp only [Bool.and_eq_true, beq_iff_eq] at ht
      rw [ht.2] at hl
      obtain ⟨v, rfl⟩ := List.length_eq_one_iff.1 hl
      exact ⟨v, rfl, rfl⟩
    · cases ht

/-- the cells of a datum's value are the datum's cells -/
theorem val_cells : ∀ (ty : Ty) (x : ty.T), (ty.val x).cells.toList = ty.enc x := by
  intro ty x
  cases ty with
  | arr n t => rfl
  | nil => rfl
  | cons t r => rfl
  | int k => rfl
  | bool => rfl
  | str => rfl
  | slice e => cases x <;> rfl

/-- elements at addresses one behind the other -/
theorem elems_open {ty : Ty} {n : Nat} {s : Nat} {get : Nat → Option (List Value)} {f : List Value → Option (DataW H × List MemPlace)} {xs : List (DataW H × List MemPlace)} (hB : Bulky B BA)
    (hx : (List.range n).mapM (fun i => (get i).bind f) = some xs)
    (ih : ∀ cs d, f cs = some d → ∃ x : ty.T, ty.WF x ∧ CR (stillR P w) (ty.enc x) cs ∧ ty.bulk x ≤ B d.1) :
    ∃ l : List ty.T, l.length = n ∧ (∀ x ∈ l, ty.WF x) ∧ (∀ (i : Nat) x, l[i]? = some x → ∃ cs, get i = some cs ∧ CR (stillR P w) (ty.enc x) cs) ∧ (l.map ty.bulk).sum ≤ BA (xs.map (·.1)) := by
  obtain ⟨h1, h2⟩ := mapM_get hx
  rw [List.length_range] at h1
  have key : ∀ i, i < n → ∃ x : ty.T, ty.WF x ∧ (∃ cs, get i = some cs ∧ CR (stillR P w) (ty.enc x) cs) ∧ ∀ d, xs[i]? = some d → ty.bulk x ≤ B d.1 := by
    intro i hi
    obtain ⟨y, hy, hg⟩ := h2 i i (by rw [List.getElem?_range hi])
    rw [Option.bind_eq_some_iff] at hy
    obtain ⟨cs, hc, hf⟩ := hy
    obtain ⟨x, w1, w2, w3⟩ := ih cs y hf
    exact ⟨x, w1, ⟨cs, hc, w2⟩, fun d hd => by rw [hg] at hd; cases hd; exact w3⟩
  have build : ∀ m, m ≤ n → ∃ l : List ty.T, l.length = m ∧ ∀ (i : Nat) x, l[i]? = some x → ty.WF x ∧ (∃ cs, get i = some cs ∧ CR (stillR P w) (ty.enc x) cs) ∧ ∀ d, xs[i]? = some d → ty.bulk x ≤ B d.1 := by
    intro m
    induction m with
    | zero => intro _; exact ⟨[], rfl, fun i x h => by simp at h⟩
    | succ m im =>
      intro hm
      obtain ⟨l, l1, l2⟩ := im (by omega)
      obtain ⟨x, hx⟩ := key m (by omega)
      refine ⟨l ++ [x], by simp [l1], fun i y hy => ?_⟩
      rw [List.getElem?_append] at hy
      split at hy
      · exact l2 i y hy
      · rename_i hge
        have hi : i = m := by
          have := (List.getElem?_eq_some_iff.1 hy).1
          simp at this
          omega
        subst hi
        rw [l1] at hy
        simp at hy
        subst hy
        exact hx
  obtain ⟨l, l1, l2⟩ := build n (Nat.le_refl _)
  refine ⟨l, l1, fun x hx => ?_, fun i x hx => (l2 i x hx).2.1, sum_le hB (by rw [l1, h1]) fun i x d hx hd => (l2 i x hx).2.2 d hd⟩
  obtain ⟨i, hi⟩ := List.mem_iff_getElem?.1 hx
  exact (l2 i x hi).1

theorem flat_open {ty : Ty} {E : Ren} {s : Nat} : ∀ {l : List ty.T} {cs : List Value}, cs.length = l.length * s → (∀ (i : Nat) x, l[i]? = some x → CR E (ty.enc x) ((cs.drop (i * s)).take s)) → CR E (l.flatMap ty.enc) cs := by
  intro l
  induction l with
  | nil => intro cs h _; simp at h; subst h; exact .nil
  | cons x l ih =>
    intro cs h hh
    have h0 := hh 0 x (by simp)
    simp only [Nat.zero_mul, List.drop_zero] at h0
    have hr : CR E (l.flatMap ty.enc) (cs.drop s) := by
      refine ih (by simp [h, Nat.succ_mul]) fun i y hy => ?_
      have := hh (i + 1) y (by simpa using hy)
      rw [List.drop_drop]
      rw [Nat.succ_mul, Nat.add_comm] at this
      exact this
    have := h0.append hr
    rw [List.take_append_drop] at this
    exact this

theorem open_ty (hB : Bulky B BA) : ∀ ty : Ty,
    (∀ t fuel cs d, ty.has P none t = true → DataW.trod E₀ P w 0 sp held fuel t cs = some d → ∃ x : ty.T, ty.WF x ∧ CR (stillR P w) (ty.enc x) cs ∧ ty.bulk x ≤ B d.1) ∧
    (∀ (fs : List Field) (off tot fuel : Nat) (cs : List Value) (xs : List (DataW H × List MemPlace)), ty.has P (some (fs, off, tot)) 0 = true → cs.length = tot → fs.mapM (fun f => DataW.trod E₀ P w 0 sp held fuel f.type ((cs.drop f.offset).take (P.cellsOf f.type))) = some xs →
      ∃ x : ty.T, ty.WF x ∧ CR (stillR P w) (ty.enc x) (cs.drop off) ∧ ty.bulk x ≤ BA (xs.map (·.1))) := by
  intro ty
  induction ty with
  | int k =>
    refine ⟨fun t fuel cs d ht hd => ?_, fun fs off tot fuel cs xs h => by cases h⟩
    simp only [Ty.has] at ht
    split at ht
    · rename_i k' hu
      simp only [Bool.and_eq_true, beq_iff_eq] at ht
      obtain ⟨rfl, _⟩ := ht
      cases fuel with
      | zero => cases hd
      | succ fuel =>
        unfold DataW.trod at hd
        rw [hu] at hd
        split at hd <;> first | (rename_i e _; cases e; done) | skip
        all_goals first
          | (rename_i e; cases e; done)
          | skip
        · rename_i k2 k3 n e
          cases e
          split at hd
          · rename_i hw
            cases hd
            obtain ⟨rfl, hw⟩ := hw
            exact ⟨n, hw, .cons (.int _ _) .nil, hB.lit _⟩
          · cases hd
        all_goals (cases hd)
    · cases ht
  | bool =>
    refine ⟨fun t fuel cs d ht hd => ?_, fun fs off tot fuel cs xs h => by cases h⟩
    simp only [Ty.has] at ht
    split at ht
    · rename_i hu
      cases fuel with
      | zero => cases hd
      | succ fuel =>
        unfold DataW.trod at hd
        rw [hu] at hd
        split at hd <;> first | (rename_i e _; cases e; done) | skip
        all_goals first
          | (rename_i e; cases e; done)
          | skip
        · rename_i b e
          cases hd
          exact ⟨b, trivial, .cons (.bool _) .nil, hB.lit _⟩
        all_goals (cases hd)
    · cases ht
  | str =>
    refine ⟨fun t fuel cs d ht hd => ?_, fun fs off tot fuel cs xs h => by cases h⟩
    simp only [Ty.has] at ht
    split at ht
    · rename_i hu
      cases fuel with
      | zero => cases hd
      | succ fuel =>
        unfold DataW.trod at hd
        rw [hu] at hd
        split at hd <;> first | (rename_i e _; cases e; done) | skip
        all_goals first
          | (rename_i e; cases e; done)
          | skip
        · rename_i s e
          split at hd
          · rename_i hs
            cases hd
            exact ⟨s, hs, .cons (.string _) .nil, by simp only [Ty.bulk]; rw [hB.str]; simp⟩
          · cases hd
        all_goals (cases hd)
    · cases ht
  | slice e ih =>
    refine ⟨fun t fuel cs d ht hd => ?_, fun fs off tot fuel cs xs h => by cases h⟩
    simp only [Ty.has] at ht
    split at ht
    · rename_i e' hu
      simp only [Bool.and_eq_true, beq_iff_eq, decide_eq_true_eq] at ht
      obtain ⟨⟨he, hpos⟩, _⟩ := ht
      cases fuel with
      | zero => cases hd
      | succ fuel =>
        unfold DataW.trod at hd
        rw [hu] at hd
        split at hd <;> first | (rename_i e _; cases e; done) | skip
        all_goals first
          | (rename_i e; cases e; done)
          | skip
        · rename_i e1
          cases e1
          cases hd
          exact ⟨none, trivial, .cons (.nilSlice 0 0) .nil, by simp only [Ty.bulk]; rw [hB.nil]; exact Nat.le_refl _⟩
        · rename_i a len cap e1
          cases e1
          simp only at hd
          split at hd
          · rename_i hc
            rw [Option.bind_eq_some_iff] at hd
            obtain ⟨elems, hel, hd⟩ := hd
            rw [Option.map_eq_some_iff] at hd
            obtain ⟨rest, _, rfl⟩ := hd
            obtain ⟨l, l1, l2, l3, l4⟩ := elems_open (P := P) (w := w) (s := P.cellsOf e') hB hel fun cs d hf => ih.1 e' fuel cs d he hf
            refine ⟨some l, l2, ?_, by simp only [Ty.bulk]; rw [hB.slice]; omega⟩
            refine .cons ?_ .nil
            by_cases h0 : l.length = 0
            · have : l = [] := List.eq_nil_of_length_eq_zero h0
              subst this
              have : len = 0 := by rw [← l1]; rfl
              subst this
              exact .vs0
            · have hfirst : ∃ x, l[0]? = some x := ⟨l[0]'(by omega), List.getElem?_eq_getElem _⟩
              obtain ⟨x0, hx0⟩ := hfirst
              obtain ⟨cs0, g1, _⟩ := l3 0 x0 hx0
              rw [Nat.zero_mul] at g1
              obtain ⟨g2, g3⟩ := cells_get g1
              obtain ⟨hsp, c, ce, fz, hb, _, _⟩ := g3 hpos
              obtain ⟨b, off, spot⟩ := a
              have hsp' : spot = none := hsp
              subst hsp'
              have hb' : w.heap[b]? = some (.cells c ce fz) := hb
              have each : ∀ (i : Nat) x, l[i]? = some x → off + i * P.cellsOf e' + P.cellsOf e' ≤ c.size ∧ (e.enc x).length = P.cellsOf e' ∧ ∀ j v v', (e.enc x)[j]? = some v → c[off + i * P.cellsOf e' + j]? = some v' → RV (stillR P w) v v' := by
                intro i x hx
                obtain ⟨cs, q1, q2⟩ := l3 i x hx
                obtain ⟨q3, q4⟩ := cells_get q1
                rw [add_off] at q4
                obtain ⟨_, c', ce', fz', q5, q6, q7⟩ := q4 hpos
                have q5' : w.heap[b]? = some (.cells c' ce' fz') := q5
                rw [hb'] at q5'; cases q5'
                refine ⟨q6, by rw [q2.length, q3], fun j v v' h1 h2 => ?_⟩
                have hj : j < P.cellsOf e' := by
                  have := (List.getElem?_eq_some_iff.1 h1).1
                  rw [q2.length, q3] at this; exact this
                rw [q7 j hj] at h2
                exact q2.get j v v' h1 h2
              have hsz : ∀ v ∈ l.map (fun x => e.one (e.enc x)), v.cells.size = P.cellsOf e' := by
                intro v hv
                obtain ⟨x, hx, rfl⟩ := List.mem_map.1 hv
                obtain ⟨i, hi⟩ := List.mem_iff_getElem?.1 hx
                have h1 := val_cells e x
                unfold Ty.val at h1
                rw [← Array.length_toList, h1]
                exact (each i x hi).2.1
              have hlen : (l.map (fun x => e.one (e.enc x))).length = len := by simp [l1]
              have hle : off + len * P.cellsOf e' ≤ c.size := by
                have hlast : ∃ x, l[len - 1]? = some x := ⟨l[len - 1]'(by omega), List.getElem?_eq_getElem _⟩
                obtain ⟨x, hx⟩ := hlast
                have := (each (len - 1) x hx).1
                have e2 : len * P.cellsOf e' = (len - 1) * P.cellsOf e' + P.cellsOf e' := by
                  rw [← Nat.succ_mul]; congr 1; omega
                omega
              have := RV.vs (E := stillR P w) (l := l.map fun x => e.one (e.enc x)) (b' := b) (off := off) (cap := cap) (s := P.cellsOf e') (c := c) (by simp [stillR, hb']) hpos hsz (by rw [hlen]; exact hle) (by rw [hlen]; exact hc.2.1) fun i v v' h1 h2 => ?_
              · rw [hlen] at this; exact this
              · have hi : i < len * P.cellsOf e' := by
                  have := (List.getElem?_eq_some_iff.1 h1).1
                  rw [flatC_length hsz, hlen] at this; exact this
                have hq : i / P.cellsOf e' < len := (Nat.div_lt_iff_lt_mul hpos).2 hi
                have hjs : i / P.cellsOf e' * P.cellsOf e' + i % P.cellsOf e' = i := by rw [Nat.mul_comm]; exact Nat.div_add_mod i _
                have hx : l[i / P.cellsOf e']? = some (l[i / P.cellsOf e']'(by omega)) := List.getElem?_eq_getElem _
                generalize l[i / P.cellsOf e']'(by omega) = x at hx
                have hat := flatC_at hsz (i % P.cellsOf e') (i := i / P.cellsOf e') (x := e.one (e.enc x)) (by rw [List.getElem?_map, hx]; rfl) (Nat.mod_lt _ hpos)
                rw [hjs] at hat
                rw [hat] at h1
                have h1' : (e.enc x)[i % P.cellsOf e']? = some v := by
                  have h3 := val_cells e x
                  unfold Ty.val at h3
                  rw [← h3, Array.getElem?_toList]; exact h1
                exact (each _ x hx).2.2 _ v v' h1' (by rw [Nat.add_assoc, hjs]; exact h2)
          · cases hd
        all_goals (cases hd)
    · cases ht
  | arr n e ih =>
    refine ⟨fun t fuel cs d ht hd => ?_, fun fs off tot fuel cs xs h => by cases h⟩
    simp only [Ty.has] at ht
    split at ht
    · rename_i m e' hu
      simp only [Bool.and_eq_true, beq_iff_eq] at ht
      obtain ⟨⟨rfl, he⟩, hsz⟩ := ht
      cases fuel with
      | zero => cases hd
      | succ fuel =>
        unfold DataW.trod at hd
        rw [hu] at hd
        dsimp only at hd
        · split at hd
          · rename_i hc
            rw [Option.map_eq_some_iff] at hd
            obtain ⟨xs, hxs, rfl⟩ := hd
            obtain ⟨l, l1, l2, l3, l4⟩ := elems_open (P := P) (w := w) (s := P.cellsOf e') (get := fun i => some ((cs.drop (i * P.cellsOf e')).take (P.cellsOf e'))) (f := DataW.trod E₀ P w 0 sp held fuel e') hB hxs fun cs d hf => ih.1 e' fuel cs d he hf
            refine ⟨l, ⟨l1, l2⟩, flat_open (s := P.cellsOf e') (by rw [l1, ← hsz]; exact hc) fun i x hx => ?_, by simp only [Ty.bulk]; rw [hB.agg]; omega⟩
            obtain ⟨cs', q1, q2⟩ := l3 i x hx
            cases q1
            exact q2
          · cases hd
    · cases ht
  | nil =>
    refine ⟨fun t fuel cs d ht hd => ?_, fun fs off tot fuel cs xs h hl hx => ?_⟩
    · simp only [Ty.has] at ht
      split at ht
      · rename_i fs hu
        simp only [Bool.and_eq_true, beq_iff_eq] at ht
        cases fuel with
        | zero => cases hd
        | succ fuel =>
          unfold DataW.trod at hd
          rw [hu] at hd
          dsimp only at hd
          · split at hd
            · rename_i hc
              have : cs = [] := List.eq_nil_of_length_eq_zero (by rw [hc, ht.2])
              subst this
              exact ⟨(), trivial, .nil, Nat.zero_le _⟩
            · cases hd
      · cases ht
    · simp only [Ty.has, Bool.and_eq_true, beq_iff_eq] at h
      refine ⟨(), trivial, ?_, Nat.zero_le _⟩
      rw [List.drop_eq_nil_of_le (by omega)]
      exact .nil
  | cons a r iha ihr =>
    have step : ∀ (f : Field) (fs : List Field) (off tot fuel : Nat) (cs : List Value) (xs : List (DataW H × List MemPlace)), f.offset = off → a.has P none f.type = true → r.has P (some (fs, off + P.cellsOf f.type, tot)) 0 = true → cs.length = tot →
        (f :: fs).mapM (fun f => DataW.trod E₀ P w 0 sp held fuel f.type ((cs.drop f.offset).take (P.cellsOf f.type))) = some xs →
        ∃ x : (Ty.cons a r).T, (Ty.cons a r).WF x ∧ CR (stillR P w) ((Ty.cons a r).enc x) (cs.drop off) ∧ (Ty.cons a r).bulk x ≤ BA (xs.map (·.1)) := by
      intro f fs off tot fuel cs xs hf ha hr hl hx
      rw [List.mapM_cons] at hx
      cases hy : DataW.trod E₀ P w 0 sp held fuel f.type ((cs.drop f.offset).take (P.cellsOf f.type)) with
      | none => rw [hy] at hx; cases hx
      | some y =>
        rw [hy] at hx
        cases hz : fs.mapM (fun f => DataW.trod E₀ P w 0 sp held fuel f.type ((cs.drop f.offset).take (P.cellsOf f.type))) with
        | none => rw [hz] at hx; cases hx
        | some ys =>
          rw [hz] at hx
          simp at hx
          subst hx
          obtain ⟨x1, a1, a2, a3⟩ := iha.1 f.type fuel _ y ha hy
          obtain ⟨x2, b1, b2, b3⟩ := ihr.2 fs (off + P.cellsOf f.type) tot fuel cs ys hr hl hz
          refine ⟨(x1, x2), ⟨a1, b1⟩, ?_, ?_⟩
          · have h3 := a2.append b2
            rw [hf] at h3
            have e : (cs.drop off).take (P.cellsOf f.type) ++ cs.drop (off + P.cellsOf f.type) = cs.drop off := by
              rw [← List.drop_drop, List.take_append_drop]
            rw [e] at h3
            exact h3
          · simp only [Ty.bulk]
            rw [List.map_cons, hB.cons]
            exact Nat.add_le_add a3 b3
    refine ⟨fun t fuel cs d ht hd => ?_, fun fs off tot fuel cs xs h hl hx => ?_⟩
    · simp only [Ty.has] at ht
      split at ht
      · rename_i fs hu
        split at ht
        · rename_i f rest hfs
          simp only [Bool.and_eq_true, beq_iff_eq] at ht
          obtain ⟨⟨h1, h2⟩, h3⟩ := ht
          cases fuel with
          | zero => cases hd
          | succ fuel =>
            unfold DataW.trod at hd
            rw [hu] at hd
            dsimp only at hd
            · split at hd
              · rename_i hc
                rw [Option.map_eq_some_iff] at hd
                obtain ⟨xs, hxs, rfl⟩ := hd
                rw [hfs] at hxs
                obtain ⟨x, g1, g2, g3⟩ := step f rest 0 (P.cellsOf t) fuel cs xs h1 h2 (by rw [Nat.zero_add]; exact h3) hc hxs
                refine ⟨x, g1, by simpa using g2, ?_⟩
                rw [hB.agg]
                exact Nat.le_succ_of_le g3
              · cases hd
        · cases ht
      · cases ht
    · simp only [Ty.has] at h
      split at h
      · rename_i f fs
        simp only [Bool.and_eq_true, beq_iff_eq] at h
        obtain ⟨⟨h1, h2⟩, h3⟩ := h
        exact step f fs off tot fuel cs xs h1 h2 h3 hl hx
      · cases h

end

end Go.Ab

/- AbRun -/
namespace Go.Ab
open Go.WideShapes
set_option linter.unusedVariables false
set_option linter.unusedSimpArgs false

/-- whatever a call may come to in the end, of it Q holds -/
def HF (P : Program) (f : FuncId) (args : Array Value) (h : AH) (Q : Value → AH → Prop) : Prop := ∀ E w args', RW P E h w → RA E args args' →
  Calls P f args' w fun e w' => ∃ E' v v' h', e = .returned v' ∧ RW P E' h' w' ∧ Ext E w E' w' ∧ RV E' v v' ∧ Q v h'

theorem HF.mono {P : Program} {f : FuncId} {args : Array Value} {h : AH} {Q R : Value → AH → Prop} (a : HF P f args h Q) (hr : ∀ v h', Q v h' → R v h') : HF P f args h R :=
  fun E w args' r ra => (a E w args' r ra).mono fun e w' ⟨E', v, v', h', e1, e2, e3, e4, e5⟩ => ⟨E', v, v', h', e1, e2, e3, e4, hr v h' e5⟩

theorem HF.of_call {P : Program} {call : CallF} (hc : CallOk P call) {f : FuncId} {args : Array Value} {h h' : AH} {v : Value} {q : Bool} (hh : call f args h = some (v, q, h')) : HF P f args h fun u g => u = v ∧ g = h' :=
  fun E w args' r ra => ((hc f args h v q h' hh).2 E w args' r ra).mono fun e w' ⟨E', v', e1, e2, e3, e4⟩ => ⟨E', v, v', h', e1, e2, e3, e4, rfl, rfl⟩

theorem HF.of_fnA {P : Program} (n : Nat) {f : FuncId} {args : Array Value} {h h' : AH} {v : Value} {q : Bool} (hh : fnA P n f args h = some (v, q, h')) : HF P f args h fun u g => u = v ∧ g = h' :=
  HF.of_call (fnA_ok P n) hh

/-- the heap at the beginning of a call: nothing is known of the package-level variables -/
def AH.bare (P : Program) : AH := ⟨.leaf, P.globals.size, []⟩

theorem rw_bare {P : Program} {w : World} (hsz : P.globals.size ≤ w.heap.size) : RW P (stillR P w) (AH.bare P) w where
  glob g hg := by simp only [stillR]; rw [if_pos hg]
  dom k n hk := by
    simp only [stillR] at hk
    split at hk
    · cases hk; exact ⟨by assumption, by omega⟩
    · cases hk
  sdom k x hk := by cases hk
  live k o s hk := by simp [AH.bare, AH.get, T.get] at hk
  inj j k n _ _ gj _ := by simp [AH.bare, AH.get, T.get] at gj
  frz b c hb := by
    simp only [stillR] at hb
    split at hb
    · rename_i c' e fz hc
      cases hb
      exact ⟨c, e, fz, hc, Nat.le_refl _, fun _ _ => rfl⟩
    · cases hb
  icy k o s n hk := by simp [AH.bare, AH.get, T.get] at hk

/-- the package-level variables are rows -/
def varsB (P : Program) : Bool := (List.range P.globals.size).all fun g => (((begin P (fun _ _ => 0) default).world.heap[g]?).bind Obj.row?).isSome

theorem vars_rows {P : Program} {w : World} (hv : varsB P = true) (hs : w.ShapedOpen P) : ∀ g, g < P.globals.size → ∃ c e, w.heap[g]? = some (.cells c e) := by
  intro g hg
  have h1 := List.all_eq_true.1 hv g (List.mem_range.2 hg)
  obtain ⟨x, hx⟩ := Option.isSome_iff_exists.1 h1
  obtain ⟨zero, t⟩ := x
  obtain ⟨cs, h2, _⟩ := hs.1 g zero t hg hx
  exact ⟨cs, t, h2⟩

theorem vars_size {P : Program} {w : World} (hv : ∀ g, g < P.globals.size → ∃ c e, w.heap[g]? = some (.cells c e)) : P.globals.size ≤ w.heap.size := by
  cases hn : P.globals.size with
  | zero => exact Nat.zero_le _
  | succ n =>
    obtain ⟨c, e, h⟩ := hv n (by omega)
    have := (Array.getElem?_eq_some_iff.1 h).1
    omega

theorem below_of_ext {P : Program} {w w' : World} {E' : Ren} (x : Ext (stillR P w) w E' w') (hv : ∀ g, g < P.globals.size → ∃ c e, w.heap[g]? = some (.cells c e)) : RowKit.Below w.heap.size w w' where
  os := x.os
  tape := x.tape
  output := x.output
  size := x.size
  block k hk := by
    by_cases hc : ∃ c e fz, w.heap[k]? = some (.cells c e fz)
    · obtain ⟨c, e, fz, hc⟩ := hc
      exact x.ice k (by simp [stillR, hc])
    · refine x.frame k hk fun j hj => ?_
      simp only [stillR] at hj
      split at hj
      · rename_i hlt
        cases hj
        obtain ⟨c, e, h⟩ := hv _ hlt
        exact hc ⟨c, e, _, h⟩
      · cases hj

section
variable {H : Type} {E₀ : TypeId × Value → H} {P : Program} {w : World} {sp : Nat → Bool} {held : Bool} {B : DataW H → Nat} {BA : List (DataW H) → Nat}

/-- one argument -/
theorem open_arg (hB : Bulky B BA) (ty : Ty) {t : TypeId} {v : Value} {d : DataW H} {ps : List MemPlace} {r : Reach} {b0 : Nat} (ht : ty.has P none t = true) (hval : Value.okWide P w r b0 t v) (hd : DataW.Trod E₀ P w 0 sp held t v d ps) :
    ∃ x : ty.T, ty.WF x ∧ RV (stillR P w) (ty.val x) v ∧ ty.bulk x ≤ B d := by
  obtain ⟨fuel, hd⟩ := hd
  obtain ⟨x, h1, h2, h3⟩ := (open_ty (P := P) (w := w) (E₀ := E₀) (sp := sp) (held := held) hB ty).1 t fuel v.cells.toList (d, ps) ht hd
  refine ⟨x, h1, ?_, h3⟩
  have aggc : (∃ cs, v = .agg cs) → RV (stillR P w) (.agg (ty.enc x).toArray) v := by
    rintro ⟨cs, rfl⟩
    have := h2.ra
    exact .agg this.1 this.2
  have onec : ∀ u, ty.enc x = [u] → (∀ cs, v ≠ .agg cs) → RV (stillR P w) u v := by
    intro u hu hn
    rw [hu] at h2
    have hc : v.cells.toList = [v] := by cases v <;> first | rfl | exact absurd rfl (hn _)
    rw [hc] at h2
    cases h2 with
    | cons h _ => exact h
  cases ty with
  | int k =>
    simp only [Ty.has] at ht
    split at ht
    · rename_i k' hu
      obtain ⟨n, rfl⟩ := okWide_int hu hval
      exact onec _ rfl fun cs e => by cases e
    · cases ht
  | bool =>
    simp only [Ty.has] at ht
    split at ht
    · rename_i hu
      obtain ⟨n, rfl⟩ := okWide_bool hu hval
      exact onec _ rfl fun cs e => by cases e
    · cases ht
  | str =>
    simp only [Ty.has] at ht
    split at ht
    · rename_i hu
      obtain ⟨n, rfl⟩ := okWide_string hu hval
      exact onec _ rfl fun cs e => by cases e
    · cases ht
  | slice e =>
    simp only [Ty.has] at ht
    split at ht
    · rename_i e' hu
      obtain ⟨a, len, cap, rfl⟩ := okWide_slice hu hval
      cases x with
      | none => exact onec _ rfl fun cs e => by cases e
      | some l => exact onec _ rfl fun cs e => by cases e
    · cases ht
  | arr n e =>
    simp only [Ty.has] at ht
    split at ht
    · rename_i m e' hu
      unfold Value.okWide at hval
      rw [hu] at hval
      obtain ⟨cs, hc, _⟩ := hval
      exact aggc ⟨cs, hc⟩
    · cases ht
  | nil =>
    simp only [Ty.has] at ht
    split at ht
    · rename_i fs hu
      obtain ⟨cs, hc, _⟩ := okWide_struct hu hval
      exact aggc ⟨cs, hc⟩
    · cases ht
  | cons a r =>
    simp only [Ty.has] at ht
    split at ht
    · rename_i fs hu
      obtain ⟨cs, hc, _⟩ := okWide_struct hu hval
      exact aggc ⟨cs, hc⟩
    · cases ht

end

end Go.Ab
