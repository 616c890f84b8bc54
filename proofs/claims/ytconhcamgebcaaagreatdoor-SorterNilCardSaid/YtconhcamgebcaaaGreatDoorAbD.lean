/-
  ABSTRACT HEAPS: an evaluator of the program's code over a heap of one's own, and that what it says is so.
-/
import Derived.Test.YtconhcamgebcaaaGreatDoorAbC
import GoSem.ClaimJoined
import Derived.Shelf.Strings.Search3
/- AbExec -/
namespace Go.Ab
set_option linter.unusedVariables false
set_option linter.unusedSimpArgs false

abbrev Outs := List (HX × AA × AH)

def goO (k : HX → AA → AH → Option Outs) : Outs → Option Outs
  | [] => some []
  | (e, a, h) :: l => match k e a h, goO k l with
    | some x, some y => some (x ++ y)
    | _, _ => none
def bindO (o : Option Outs) (k : HX → AA → AH → Option Outs) : Option Outs := match o with
  | none => none
  | some l => goO k l

theorem goO_mem {k : HX → AA → AH → Option Outs} : ∀ {l L : Outs}, goO k l = some L → ∀ e a h, (e, a, h) ∈ l → ∃ m, k e a h = some m ∧ ∀ x ∈ m, x ∈ L := by
  intro l
  induction l with
  | nil => intro L _ e a h hm; cases hm
  | cons y l ih =>
    intro L hL e a h hm
    obtain ⟨e0, a0, h0⟩ := y
    simp only [goO] at hL
    split at hL
    · rename_i x y hx hy
      cases hL
      rcases List.mem_cons.1 hm with e1 | hm
      · cases e1; exact ⟨x, hx, fun z hz => List.mem_append_left _ hz⟩
      · obtain ⟨m, h1, h2⟩ := ih hy e a h hm
        exact ⟨m, h1, fun z hz => List.mem_append_right _ (h2 z hz)⟩
    · cases hL
theorem goO_back {k : HX → AA → AH → Option Outs} : ∀ {l L : Outs}, goO k l = some L → ∀ x ∈ L, ∃ e a h m, (e, a, h) ∈ l ∧ k e a h = some m ∧ x ∈ m := by
  intro l
  induction l with
  | nil => intro L hL x hx; cases hL; cases hx
  | cons y l ih =>
    intro L hL x hx
    obtain ⟨e0, a0, h0⟩ := y
    simp only [goO] at hL
    split at hL
    · rename_i u v hu hv
      cases hL
      rcases List.mem_append.1 hx with h1 | h1
      · exact ⟨e0, a0, h0, u, by simp, hu, h1⟩
      · obtain ⟨e, a, h, m, g1, g2, g3⟩ := ih hv x h1
        exact ⟨e, a, h, m, List.mem_cons_of_mem _ g1, g2, g3⟩
    · cases hL
theorem bindO_eq {o : Option Outs} {k : HX → AA → AH → Option Outs} {L : Outs} (h : bindO o k = some L) : ∃ l, o = some l ∧ goO k l = some L := by
  cases o with
  | none => cases h
  | some l => exact ⟨l, rfl, h⟩

/-- the steps that a walk may take -/
def nextM (P : Program) (h : AH) (it : Value) (s : Bool) : Option (List (Value × AH)) := match it with
  | .pointer (some ⟨r, 0, none⟩) => match h.get r with
    | some (.mapIter (some m) since seen last, so) => if s then none else match h.get m with
      | some (.map es clock, _) => if !seen.isEmpty && !es.isEmpty && es.all (·.born ≥ last) then none else
        let un := es.toList.filter fun e => !seen.contains e.born
        some ((if un.all fun e => decide (since ≤ e.born) then [(overV, h)] else []) ++ un.map fun e => (.tuple #[.bool true, e.key, e.val], h.put r (some (.mapIter (some m) since (seen.push e.born) clock, so))))
      | _ => none
    | _ => (opNext P h it s).map fun r => [r]
  | _ => none

theorem nextM_P {P : Program} {h : AH} {it : Value} {s : Bool} {L : List (Value × AH)} {k : Value → AH → Prop} (hh : nextM P h it s = some L) (hk : ∀ x ∈ L, k x.1 x.2) : nextP P h it s k := by
  unfold nextM at hh
  unfold nextP
  split at hh
  case h_2 => cases hh
  rename_i r
  simp only
  split at hh
  · rename_i m since seen last so hg
    simp only [hg]
    split at hh
    · cases hh
    rename_i hs
    refine ⟨by simpa using hs, ?_⟩
    split at hh
    case h_2 => cases hh
    rename_i es clock sm hm
    simp only [hm]
    split at hh
    · cases hh
    rename_i hc
    cases hh
    refine ⟨by simpa using hc, fun hall => ?_, fun e he hse => ?_⟩
    · refine hk (overV, h) (List.mem_append_left _ ?_)
      rw [if_pos]
      · simp
      · rw [List.all_eq_true]
        intro e he
        rw [List.mem_filter] at he
        simpa using hall e he.1 (by simpa using he.2)
    · refine hk (_, _) (List.mem_append_right _ (List.mem_map.2 ⟨e, List.mem_filter.2 ⟨he, by rw [hse]; rfl⟩, rfl⟩))
  · rename_i hne
    cases ho : opNext P h (.pointer (some ⟨r, 0, none⟩)) s with
    | none => rw [ho] at hh; cases hh
    | some x =>
      rw [ho] at hh
      cases hh
      have := hk x (by simp)
      split
      · rename_i m since seen last so hg; exact absurd hg (hne _ _ _ _ _)
      · first | exact this | (rw [ho]; exact this)

theorem nextM_logs {P : Program} {h : AH} {it : Value} {s : Bool} {L : List (Value × AH)} (hh : nextM P h it s = some L) : ∀ x ∈ L, Logs h x.2 := by
  unfold nextM at hh
  split at hh
  case h_2 => cases hh
  split at hh
  · split at hh
    · cases hh
    split at hh
    case h_2 => cases hh
    split at hh
    · cases hh
    cases hh
    intro x hx
    rcases List.mem_append.1 hx with h1 | h1
    · split at h1
      · rw [List.mem_singleton.1 h1]; exact .refl _
      · cases h1
    · obtain ⟨e, _, rfl⟩ := List.mem_map.1 h1
      exact .put _ _ _
  · rename_i hne
    rw [Option.map_eq_some_iff] at hh
    obtain ⟨y, hy, rfl⟩ := hh
    intro x hx
    rw [List.mem_singleton.1 hx]
    exact logs_next hy

def jOf : HX → Option (Option Code)
  | .normal => some none
  | .ret => some (some .ret)
  | .exit i => some (some (.exit i))
  | .goto l => some (some (.goto l))
  | .panic _ => none

def endM (k : Nat) (e : HX) (h : AH) : Option (Value × AH) := match jOf e, loopAt h k with
  | some j, some r => some (.bool j.isNone, h.put k (some (.loop { r.1 with state := if j.isNone then .ready else .done, pending := j }, r.2)))
  | _, _ => none

abbrev CodeF := Code → AA → AH → Option Outs

def mapE (k : Nat) : Outs → Option (List (Value × AH))
  | [] => some []
  | (e, _, h) :: l => match endM k e h, mapE k l with
    | some x, some y => some (x :: y)
    | _, _ => none

def goR (code : CodeF) (k : Nat) (body : Code) : Outs → Option (List (Value × AH))
  | [] => some []
  | (e, a, h) :: l => match e, loopAt h k, goR code k body l with
    | .normal, some q, some y => if q.1.state = .ready then match code body a (h.put k (some (.loop { q.1 with state := .busy }, q.2))) with
      | some L => match mapE k L with
        | some x => some (x ++ y)
        | none => none
      | none => none
      else none
    | _, _, _ => none

/-- a round of the loop k -/
def roundM (code : CodeF) (k : Nat) (args : List Value) (h : AH) : Option (List (Value × AH)) := match loopAt h k with
  | some r => if args.length = r.1.params.size then match code r.1.assign (roundA r.1 k args) h with
    | some L => goR code k r.1.body L
    | none => none
    else none
  | none => none

def CodeH (P : Program) (f : CodeF) : Prop := ∀ c a h L, f c a h = some L → HW P c a h fun e a' h' => (e, a', h') ∈ L
def CodeL (f : CodeF) : Prop := ∀ c a h L, f c a h = some L → ∀ x ∈ L, Logs h x.2.2

theorem HW.mono {P : Program} {c : Code} {a : AA} {h : AH} {Q R : HX → AA → AH → Prop} (hh : HW P c a h Q) (hr : ∀ e a h, Q e a h → R e a h) : HW P c a h R :=
  fun B ro E w x r rx => wpIn_mono (hh B ro E w x r rx) fun e y w' hp => hp.mono hr

theorem mapE_mem {k : Nat} : ∀ {l : Outs} {L : List (Value × AH)}, mapE k l = some L → ∀ e a h, (e, a, h) ∈ l → ∃ x, endM k e h = some x ∧ x ∈ L := by
  intro l
  induction l with
  | nil => intro L _ e a h hm; cases hm
  | cons y l ih =>
    intro L hL e a h hm
    obtain ⟨e0, a0, h0⟩ := y
    simp only [mapE] at hL
    split at hL
    · rename_i x y hx hy
      cases hL
      rcases List.mem_cons.1 hm with e1 | hm
      · cases e1; exact ⟨x, hx, by simp⟩
      · obtain ⟨z, h1, h2⟩ := ih hy e a h hm
        exact ⟨z, h1, List.mem_cons_of_mem _ h2⟩
    · cases hL
theorem mapE_back {k : Nat} : ∀ {l : Outs} {L : List (Value × AH)}, mapE k l = some L → ∀ x ∈ L, ∃ e a h, (e, a, h) ∈ l ∧ endM k e h = some x := by
  intro l
  induction l with
  | nil => intro L hL x hx; cases hL; cases hx
  | cons y l ih =>
    intro L hL x hx
    obtain ⟨e0, a0, h0⟩ := y
    simp only [mapE] at hL
    split at hL
    · rename_i u v hu hv
      cases hL
      rcases List.mem_cons.1 hx with rfl | h1
      · exact ⟨e0, a0, h0, by simp, hu⟩
      · obtain ⟨e, a, h, g1, g2⟩ := ih hv x h1
        exact ⟨e, a, h, List.mem_cons_of_mem _ g1, g2⟩
    · cases hL
theorem goR_mem {code : CodeF} {k : Nat} {body : Code} : ∀ {l : Outs} {L : List (Value × AH)}, goR code k body l = some L → ∀ e a h, (e, a, h) ∈ l →
    e = .normal ∧ ∃ q M X, loopAt h k = some q ∧ q.1.state = .ready ∧ code body a (h.put k (some (.loop { q.1 with state := .busy }, q.2))) = some M ∧ mapE k M = some X ∧ ∀ x ∈ X, x ∈ L := by
  intro l
  induction l with
  | nil => intro L _ e a h hm; cases hm
  | cons y l ih =>
    intro L hL e a h hm
    obtain ⟨e0, a0, h0⟩ := y
    simp only [goR] at hL
    split at hL
    · rename_i q y hq hy
      split at hL
      case isFalse => cases hL
      rename_i hs
      split at hL
      case h_2 => cases hL
      rename_i M hM
      split at hL
      case h_2 => cases hL
      rename_i X hX
      cases hL
      rcases List.mem_cons.1 hm with e1 | hm
      · cases e1; exact ⟨rfl, q, M, X, hq, hs, hM, hX, fun z hz => List.mem_append_left _ hz⟩
      · obtain ⟨g0, q', M', X', g1, g2, g3, g4, g5⟩ := ih hy e a h hm
        exact ⟨g0, q', M', X', g1, g2, g3, g4, fun z hz => List.mem_append_right _ (g5 z hz)⟩
    · cases hL
theorem goR_back {code : CodeF} {k : Nat} {body : Code} : ∀ {l : Outs} {L : List (Value × AH)}, goR code k body l = some L → ∀ x ∈ L, ∃ e a h q M X, (e, a, h) ∈ l ∧ loopAt h k = some q ∧
    code body a (h.put k (some (.loop { q.1 with state := .busy }, q.2))) = some M ∧ mapE k M = some X ∧ x ∈ X := by
  intro l
  induction l with
  | nil => intro L hL x hx; cases hL; cases hx
  | cons y l ih =>
    intro L hL x hx
    obtain ⟨e0, a0, h0⟩ := y
    simp only [goR] at hL
    split at hL
    · rename_i q y hq hy
      split at hL
      case isFalse => cases hL
      split at hL
      case h_2 => cases hL
      rename_i M hM
      split at hL
      case h_2 => cases hL
      rename_i X hX
      cases hL
      rcases List.mem_append.1 hx with h1 | h1
      · exact ⟨.normal, a0, h0, q, M, X, by simp, hq, hM, hX, h1⟩
      · obtain ⟨e, a, h, q', M', X', g1, g2⟩ := ih hy x h1
        exact ⟨e, a, h, q', M', X', List.mem_cons_of_mem _ g1, g2⟩
    · cases hL

theorem roundM_P {P : Program} {code : CodeF} (hc : CodeH P code) {k : Nat} {args : List Value} {h : AH} {L : List (Value × AH)} {K : Value → AH → Prop} (hh : roundM code k args h = some L) (hk : ∀ x ∈ L, K x.1 x.2) : roundP P k args h K := by
  unfold roundM at hh
  split at hh
  case h_2 => cases hh
  rename_i r hr
  split at hh
  case isFalse => cases hh
  rename_i hl
  split at hh
  case h_2 => cases hh
  rename_i M hM
  unfold roundP
  refine bq_of hr ⟨hl, (hc _ _ _ _ hM).mono fun e a h1 hm => ?_⟩
  obtain ⟨rfl, q, M2, X, g1, g2, g3, g4, g5⟩ := goR_mem hh e a h1 hm
  refine bq_of g1 ⟨g2, (hc _ _ _ _ g3).mono fun e2 a2 h2 hm2 => ?_⟩
  obtain ⟨x, e1, hx⟩ := mapE_mem g4 e2 a2 h2 hm2
  have hK := hk x (g5 x hx)
  unfold endM at e1
  split at e1
  case h_2 => cases e1
  rename_i j q2 hj hq2
  cases e1
  cases e2 with
  | normal => cases hj; exact bq_of hq2 hK
  | ret => cases hj; exact bq_of hq2 hK
  | exit i => cases hj; exact bq_of hq2 hK
  | goto i => cases hj; exact bq_of hq2 hK
  | panic v => cases hj

theorem roundM_logs {code : CodeF} (hc : CodeL code) {k : Nat} {args : List Value} {h : AH} {L : List (Value × AH)} (hh : roundM code k args h = some L) : ∀ x ∈ L, Logs h x.2 := by
  unfold roundM at hh
  split at hh
  case h_2 => cases hh
  rename_i r hr
  split at hh
  case isFalse => cases hh
  split at hh
  case h_2 => cases hh
  rename_i M hM
  intro x hx
  obtain ⟨e, a, h1, q, M2, X, g1, g2, g3, g4, g5⟩ := goR_back hh x hx
  obtain ⟨e2, a2, h2, g6, g7⟩ := mapE_back g4 x g5
  have l1 := hc _ _ _ _ hM _ g1
  have l2 := hc _ _ _ _ g3 _ g6
  unfold endM at g7
  split at g7
  · cases g7
    exact l1.trans ((Logs.put _ _ _).trans (l2.trans (.put _ _ _)))
  · cases g7

/-- a call: did it panic, the value, may it have changed the heap, the heap -/
abbrev FCall := FuncId → Array Value → AH → Option (Bool × Value × Bool × AH)
def callOf (full : FCall) : CallF := fun f args h => match full f args h with
  | some (false, v, q, h') => some (v, q, h')
  | _ => none
def resOf (p : Bool) (v : Value) : Res := if p then .pan v else .ret v
def FOk (P : Program) (full : FCall) : Prop := ∀ f args h p v q h', full f args h = some (p, v, q, h') → (p = false → q = false → h' = h) ∧ HC P f args h fun r g => r = resOf p v ∧ g = h'
def FLogs (full : FCall) : Prop := ∀ f args h p v q h', full f args h = some (p, v, q, h') → Logs h h'

theorem callOf_eq {full : FCall} {f : FuncId} {args : Array Value} {h h' : AH} {v : Value} {q : Bool} (hh : callOf full f args h = some (v, q, h')) : full f args h = some (false, v, q, h') := by
  unfold callOf at hh
  split at hh
  · rename_i e; cases hh; exact e
  · cases hh
theorem FOk.call {P : Program} {full : FCall} (hf : FOk P full) : CallOk P (callOf full) := by
  intro f args h v q h' hh
  obtain ⟨h1, h2⟩ := hf f args h _ _ _ _ (callOf_eq hh)
  refine ⟨h1 rfl, fun E w args' r ra => (h2 E w args' r ra).mono ?_⟩
  rintro e w' ⟨E', res, g, q1, q2, q3, rfl, rfl⟩
  cases e with
  | returned v' => exact ⟨E', v', rfl, q2, q3, q1⟩
  | _ => cases q1
theorem FLogs.call {full : FCall} (hf : FLogs full) : CallLogs (callOf full) := fun f args h v q h' hh => hf f args h _ _ _ _ (callOf_eq hh)

/-- what an operation may come to: did it panic, the value, the heap -/
def opM (P : Program) (call : FCall) (code : CodeF) (a : AA) (o : Oper) (h : AH) : Option (List (Bool × Value × AH)) :=
  match o.op with
  | .panic x => match a.opnd P x with
    | some (.iface t u) => some [(true, .iface t u, h)]
    | _ => none
  | .next it s => match a.opnd P it with
    | some v => (nextM P h v s).map fun l => l.map fun x => (false, x.1, x.2)
    | none => none
  | .call c => match yieldOf P a c with
    | some (k, args) => (roundM code k args h).map fun l => l.map fun x => (false, x.1, x.2)
    | none => plainM
  | _ => plainM
  where
  yieldOf (P : Program) (a : AA) (c : Call) : Option (Nat × List Value) := match c.callee with
    | .value f => match a.opnd P f, listOf (a.opnd P) c.args.toList with
      | some (.chan (some k)), some args => some (k, args)
      | _, _ => none
    | _ => none
  plainM : Option (List (Bool × Value × AH)) := match absOp P (a.opnd P) o h with
    | some (.val v h') => some [(false, v, h')]
    | some (.unit h') => some [(false, undef, h')]
    | some (.enter f args h') => match call f args h' with
      | some (p, v, _, h'') => some [(p, v, h'')]
      | none => none
    | none => none

theorem opM_wp {P : Program} {call : FCall} {code : CodeF} (hcl : FOk P call) (hcd : CodeH P code) {o : Oper} {a : AA} {h : AH} {L : List (Bool × Value × AH)} (hh : opM P call code a o h = some L)
    {B : Nat} {ro : Option Nat} {E : Ren} {w : World} {x : Act} {K : Act → World → Prop} {W : Exit → Act → World → Prop} (r : RW P E h w) (rx : RX B ro E w a x)
    (hk : ∀ v h' E' w' z, (false, v, h') ∈ L → RW P E' h' w' → Ext E w E' w' → RX B ro E' w' (a.put o.dst v) z → K z w')
    (hp : ∀ v v' h' E' w', (true, v, h') ∈ L → RW P E' h' w' → Ext E w E' w' → RV E' v v' → W (.panic [{ v := v', recovered := false }]) x w') : o.wpR ro P x w K W := by
  have hput : ∀ (d : Option Tmp) (v : Value), (x.put d v).defers = x.defers := fun d v => by cases d <;> rfl
  have hnext : ∀ {E' : Ren} {w' : World} {v v' : Value}, Ext E w E' w' → RV E' v v' → RX B ro E' w' (a.put o.dst v) (x.put o.dst v') := fun xe rv =>
    rx.next xe ((rx.rt.mono xe.le).put o.dst rv) (hput _ _) (AA.put_rnd _ _ _)
  have plain : opM.plainM P call a o h = some L → o.wpR ro P x w K W := by
    intro hh
    unfold opM.plainM at hh
    split at hh
    · rename_i v h' hop
      cases hh
      obtain ⟨E', v', w', h1, h2, h3, h4⟩ := absOp_ok r (rx.rt.opnd r) hop
      exact wpR_value (abs_nodefer hop) h1 (hk v h' E' w' _ (by simp) h2 h3 (hnext h3 h4))
    · rename_i h' hop
      cases hh
      obtain ⟨E', w', h1, h2, h3⟩ := absOp_ok r (rx.rt.opnd r) hop
      exact wpR_skip (abs_nodefer hop) h1 (hk undef h' E' w' _ (by simp) h2 h3 (hnext h3 rv_undef))
    · rename_i f args h' hop
      split at hh
      case h_2 => cases hh
      rename_i p v q h'' hcall
      cases hh
      obtain ⟨E', args', w', h1, h2, h3, h4⟩ := absOp_ok r (rx.rt.opnd r) hop
      refine wpR_enter (abs_nodefer hop) h1 (((hcl f args h' p v q h'' hcall).2 E' w' args' h2 h4).mono ?_)
      rintro e w'' ⟨E'', res, g, q1, q2, q3, rfl, rfl⟩
      cases p with
      | false =>
        cases e with
        | returned v' => exact hk v _ E'' w'' _ (by simp) q2 (h3.trans q3) (hnext (h3.trans q3) q1)
        | _ => cases q1
      | true =>
        cases e with
        | panicked chain =>
          obtain ⟨v', rfl, hv⟩ := q1
          exact hp v v' _ E'' w'' (by simp) q2 (h3.trans q3) hv
        | _ => cases q1
    · cases hh
  unfold opM at hh
  split at hh
  · rename_i y ho
    split at hh
    case h_2 => cases hh
    rename_i t u e
    cases hh
    have hv := rx.rt.opnd r y _ e
    generalize hx : x.eval y = xv at hv
    cases hv with
    | iface _ hv =>
      rename_i u'
      refine wpR_panic (v := .iface t u') (w' := w) (fun d e => by rw [ho] at e; cases e) ?_ (hp _ _ h E w (by simp) r (.refl E w) (.iface t hv))
      unfold execOp
      rw [ho]
      simp only [hx, Instr.panic, goPanic]
      rfl
  · rename_i it s ho
    split at hh
    case h_2 => cases hh
    rename_i iv e
    rw [Option.map_eq_some_iff] at hh
    obtain ⟨l, hl, rfl⟩ := hh
    have hP := nextM_P (k := fun v h' => (false, v, h') ∈ l.map fun x => (false, x.1, x.2)) hl fun y hy => List.mem_map.2 ⟨y, hy, rfl⟩
    obtain ⟨v, v', h', w', q1, q2, q3, q4, q5⟩ := nextP_run (t := o.type) r hP (rx.rt.opnd r it iv e)
    refine wpR_value (v := v') (w' := w') (fun d e => by rw [ho] at e; cases e) ?_ (hk v h' E w' _ q5 q2 q3 (hnext q3 q4))
    unfold execOp
    rw [ho]
    exact val_run q1
  · rename_i c ho
    split at hh
    · rename_i k args hy
      rw [Option.map_eq_some_iff] at hh
      obtain ⟨l, hl, rfl⟩ := hh
      unfold opM.yieldOf at hy
      split at hy
      case h_2 => cases hy
      rename_i f hcal
      split at hy
      case h_2 => cases hy
      rename_i k' args' hf ha
      cases hy
      have hP := roundM_P (K := fun v h' => (false, v, h') ∈ l.map fun x => (false, x.1, x.2)) hcd hl fun y hy => List.mem_map.2 ⟨y, hy, rfl⟩
      exact round_wp r rx ho hcal hf ha (fun v h' E' w' z hkk q1 q2 q3 => hk v h' E' w' z hkk q1 q2 q3) hP
    · exact plain hh
  · exact plain hh

theorem opM_logs {P : Program} {call : FCall} {code : CodeF} (hcl : FLogs call) (hcd : CodeL code) {o : Oper} {a : AA} {h : AH} {L : List (Bool × Value × AH)} (hh : opM P call code a o h = some L) : ∀ x ∈ L, Logs h x.2.2 := by
  have plain : opM.plainM P call a o h = some L → ∀ x ∈ L, Logs h x.2.2 := by
    intro hh
    unfold opM.plainM at hh
    split at hh
    · rename_i v h' hop
      cases hh
      intro x hx
      rw [List.mem_singleton.1 hx]
      exact absOp_logs hop
    · rename_i h' hop
      cases hh
      intro x hx
      rw [List.mem_singleton.1 hx]
      exact absOp_logs hop
    · rename_i f args h' hop
      split at hh
      case h_2 => cases hh
      rename_i p v q h'' hcall
      cases hh
      intro x hx
      rw [List.mem_singleton.1 hx]
      exact (absOp_logs hop).trans (hcl _ _ _ _ _ _ _ hcall)
    · cases hh
  unfold opM at hh
  split at hh
  · split at hh
    case h_2 => cases hh
    cases hh
    intro x hx
    rw [List.mem_singleton.1 hx]
    exact .refl _
  · split at hh
    case h_2 => cases hh
    rw [Option.map_eq_some_iff] at hh
    obtain ⟨l, hl, rfl⟩ := hh
    intro x hx
    obtain ⟨y, hy, rfl⟩ := List.mem_map.1 hx
    exact nextM_logs hl y hy
  · split at hh
    · rw [Option.map_eq_some_iff] at hh
      obtain ⟨l, hl, rfl⟩ := hh
      intro x hx
      obtain ⟨y, hy, rfl⟩ := List.mem_map.1 hx
      exact roundM_logs hcd hl y hy
    · exact plain hh
  · exact plain hh

def goM (dst : Option Tmp) (k : AA → AH → Option Outs) (a : AA) : List (Bool × Value × AH) → Option Outs
  | [] => some []
  | (p, v, h) :: l => match (if p then some [(HX.panic v, a, h)] else k (a.put dst v) h), goM dst k a l with
    | some x, some y => some (x ++ y)
    | _, _ => none

theorem goM_mem {dst : Option Tmp} {k : AA → AH → Option Outs} {a : AA} : ∀ {l : List (Bool × Value × AH)} {L : Outs}, goM dst k a l = some L → ∀ p v h, (p, v, h) ∈ l →
    (p = true ∧ (HX.panic v, a, h) ∈ L) ∨ (p = false ∧ ∃ m, k (a.put dst v) h = some m ∧ ∀ x ∈ m, x ∈ L) := by
  intro l
  induction l with
  | nil => intro L _ p v h hm; cases hm
  | cons y l ih =>
    intro L hL p v h hm
    obtain ⟨p0, v0, h0⟩ := y
    simp only [goM] at hL
    split at hL
    · rename_i x y hx hy
      cases hL
      rcases List.mem_cons.1 hm with e1 | hm
      · cases e1
        cases p with
        | true => rw [if_pos rfl] at hx; cases hx; exact .inl ⟨rfl, by simp⟩
        | false => rw [if_neg (by simp)] at hx; exact .inr ⟨rfl, x, hx, fun z hz => List.mem_append_left _ hz⟩
      · rcases ih hy p v h hm with ⟨h1, h2⟩ | ⟨h1, m, h2, h3⟩
        · exact .inl ⟨h1, List.mem_append_right _ h2⟩
        · exact .inr ⟨h1, m, h2, fun z hz => List.mem_append_right _ (h3 z hz)⟩
    · cases hL
theorem goM_back {dst : Option Tmp} {k : AA → AH → Option Outs} {a : AA} : ∀ {l : List (Bool × Value × AH)} {L : Outs}, goM dst k a l = some L → ∀ x ∈ L, ∃ p v h, (p, v, h) ∈ l ∧
    (x = (HX.panic v, a, h) ∨ ∃ m, k (a.put dst v) h = some m ∧ x ∈ m) := by
  intro l
  induction l with
  | nil => intro L hL x hx; cases hL; cases hx
  | cons y l ih =>
    intro L hL x hx
    obtain ⟨p0, v0, h0⟩ := y
    simp only [goM] at hL
    split at hL
    · rename_i u w hu hw
      cases hL
      rcases List.mem_append.1 hx with h1 | h1
      · refine ⟨p0, v0, h0, by simp, ?_⟩
        cases p0 with
        | true => rw [if_pos rfl] at hu; cases hu; exact .inl (List.mem_singleton.1 h1)
        | false => rw [if_neg (by simp)] at hu; exact .inr ⟨u, hu, h1⟩
      · obtain ⟨p, v, h, g1, g2⟩ := ih hw x h1
        exact ⟨p, v, h, List.mem_cons_of_mem _ g1, g2⟩
    · cases hL

def opsM (P : Program) (call : FCall) (code : CodeF) (ops : Array Oper) : List Nat → AA → AH → Option Outs
  | [], a, h => some [(.normal, a, h)]
  | i :: rest, a, h =>
    match ops[i]? with
    | none => opsM P call code ops rest a h
    | some o => if a.knows ops o then
        if Region.wanted o (a.yielded ops) then
          if isDefer o.op then match deferOf P a o with
            | some v => opsM P call code ops rest ((a.defer v).put o.dst undef) h
            | none => none
          else match opM P call code a o h with
          | some l => goM o.dst (opsM P call code ops rest) a l
          | none => none
        else opsM P call code ops rest (a.put o.dst undef) h
      else none

theorem opsM_ok {P : Program} {call : FCall} {code : CodeF} (hcl : FOk P call) (hcd : CodeH P code) {ops : Array Oper} : ∀ (l : List Nat) {a : AA} {h : AH} {L : Outs} {Q : HX → AA → AH → Prop}, opsM P call code ops l a h = some L → (∀ e a' h', (e, a', h') ∈ L → Q e a' h') →
    ∀ {B : Nat} {ro : Option Nat} {E₀ E : Ren} {w₀ w : World} {x : Act}, RW P E h w → Ext E₀ w₀ E w → RX B ro E w a x → wpOpsR ro P ops (HPost P B ro E₀ w₀ Q) l x w := by
  intro l
  induction l with
  | nil =>
    intro a h L Q hh hq B ro E₀ E w₀ w x r xt rx
    cases hh
    exact ⟨.normal, a, h, E, trivial, r, xt, rx, hq _ _ _ (by simp)⟩
  | cons i rest ih =>
    intro a h L Q hh hq B ro E₀ E w₀ w x r xt rx
    have hput : ∀ (d : Option Tmp) (v : Value), (x.put d v).defers = x.defers := fun d v => by cases d <;> rfl
    simp only [opsM] at hh
    simp only [wpOpsR]
    cases ho : ops[i]? with
    | none => rw [ho] at hh; exact ih hh hq r xt rx
    | some o =>
      rw [ho] at hh
      simp only at hh ⊢
      split at hh
      case isFalse => cases hh
      rename_i hkn
      rw [← rx.rt.yielded ops hkn]
      split at hh
      · rename_i hw
        rw [if_pos hw]
        split at hh
        · split at hh
          · rename_i v hv
            exact defer_wp hv r rx fun z rz => ih hh hq r xt rz
          · cases hh
        split at hh
        case h_2 => cases hh
        rename_i M hM
        refine opM_wp hcl hcd hM r rx (fun v h' E' w' z hm q1 q2 q3 => ?_) (fun v v' h' E' w' hm q1 q2 q3 => ?_)
        · rcases goM_mem hh false v h' hm with ⟨e, _⟩ | ⟨_, m, h1, h2⟩
          · cases e
          · exact ih h1 (fun e a' h' hx => hq e a' h' (h2 _ hx)) q1 (xt.trans q2) q3
        · rcases goM_mem hh true v h' hm with ⟨_, h1⟩ | ⟨e, _⟩
          · exact ⟨.panic v, a, h', E', ⟨v', rfl, q3⟩, q1, xt.trans q2, rx.next q2 (rx.rt.mono q2.le) rfl rfl, hq _ _ _ h1⟩
          · cases e
      · rename_i hw
        rw [if_neg hw]
        exact ih hh hq r xt (rx.next (.refl E w) (rx.rt.put o.dst rv_undef) (hput _ _) (AA.put_rnd _ _ _))

theorem opsM_logs {P : Program} {call : FCall} {code : CodeF} (hcl : FLogs call) (hcd : CodeL code) {ops : Array Oper} : ∀ (l : List Nat) {a : AA} {h : AH} {L : Outs}, opsM P call code ops l a h = some L → ∀ x ∈ L, Logs h x.2.2 := by
  intro l
  induction l with
  | nil =>
    intro a h L hh x hx
    cases hh
    rw [List.mem_singleton.1 hx]
    exact .refl _
  | cons i rest ih =>
    intro a h L hh
    simp only [opsM] at hh
    split at hh
    · exact ih hh
    · split at hh
      case isFalse => cases hh
      split at hh
      · split at hh
        · split at hh
          · exact ih hh
          · cases hh
        split at hh
        case h_2 => cases hh
        rename_i M hM
        intro x hx
        obtain ⟨p, v, h', g1, g2⟩ := goM_back hh x hx
        have := opM_logs hcl hcd hM _ g1
        rcases g2 with rfl | ⟨m, g2, g3⟩
        · exact this
        · exact this.trans (ih g2 x g3)
      · exact ih hh

def loopM (body : AA → AH → Option Outs) : Nat → AA → AH → Option Outs
  | 0, _, _ => none
  | k + 1, a, h => bindO (body a h) fun e a' h' => match e with
    | .normal => loopM body k a' h'
    | e => some [(e, a', h')]

def rndB (o : Option Nat) (h : AH) : Bool := match o with
  | none => true
  | some k => (loopAt h k).isSome

def codeM (P : Program) (call : FCall) (code : CodeF) (k : Nat) : Code → AA → AH → Option Outs
  | .skip, a, h | .label _, a, h => some [(.normal, a, h)]
  | .region _ ops draw, a, h => if draw then (match drawRun P (callOf call) ops a h with
    | some (a', h') => some [(.normal, a', h')]
    | none => none) else opsM P call code ops (List.range ops.size) a h
  | .seq x y, a, h => bindO (codeM P call code k x a h) fun e a' h' => match e with
    | .normal => codeM P call code k y a' h'
    | e => some [(e, a', h')]
  | .cond c x y, a, h => match a.opnd P c with
    | some (.bool true) => codeM P call code k x a h
    | some (.bool false) => codeM P call code k y a h
    | _ => none
  | .block id x, a, h => (codeM P call code k x a h).map fun l => l.map fun (e, a', h') => match e with
    | .exit j => if j = id then (.normal, a', h') else (.exit j, a', h')
    | e => (e, a', h')
  | .loop x, a, h => loopM (codeM P call code k x) k a h
  | .scope x, a, h => bindO (codeM P call code k x a h) fun e a' h' => match e with
    | .goto l => match findLabel x l with
      | some rest => scopeN code x k rest a' h'
      | none => none
    | e => some [(e, a', h')]
  | .exit id, a, h => some [(.exit id, a, h)]
  | .goto l, a, h => some [(.goto l, a, h)]
  | .ret, a, h => some [(.ret, a, h)]
  | .rangeFunc g ps x y, a, h => match a.opnd P g with
    | some (.func (.func f) first captured) => if hasBody P f && rndB a.rnd.loop h then match call f (first.toList ++ .chan (some h.size) :: captured.toList).toArray (h.push (.loop (recOf a ps x y)) none) with
      | some (false, _, _, h') => match loopAt h' h.size with
        | some r => if r.1.state ≠ .busy then match r.1.pending with
          | none => some [(.normal, a, h'.put h.size none)]
          | some .ret => some [(.ret, a, h'.put h.size none)]
          | some (.exit i) => some [(.exit i, a, h'.put h.size none)]
          | some (.goto i) => some [(.goto i, a, h'.put h.size none)]
          | _ => none
          else none
        | none => none
      | _ => none
      else none
    | _ => none
  | _, _, _ => none
  where
  scopeN (code : CodeF) (c : Code) : Nat → Code → AA → AH → Option Outs
  | 0, _, _, _ => none
  | n + 1, d, a, h => bindO (code d a h) fun e a' h' => match e with
    | .goto l => match findLabel c l with
      | some rest => scopeN code c n rest a' h'
      | none => none
    | e => some [(e, a', h')]

theorem HL.of_loopM {P : Program} {c : Code} {body : AA → AH → Option Outs} (hb : ∀ a h L, body a h = some L → HW P c a h fun e a' h' => (e, a', h') ∈ L) : ∀ (k : Nat) {a : AA} {h : AH} {L : Outs}, loopM body k a h = some L → HL P c a h fun e a' h' => (e, a', h') ∈ L := by
  intro k
  induction k with
  | zero => intro a h L hh; cases hh
  | succ k ih =>
    intro a h L hh
    simp only [loopM] at hh
    obtain ⟨l, h1, h2⟩ := bindO_eq hh
    refine HL.round ((hb a h l h1).mono fun e a' h' hm => ?_)
    obtain ⟨m, g1, g2⟩ := goO_mem h2 e a' h' hm
    cases e with
    | normal => exact HL_mono (ih g1) fun e a h hx => g2 _ hx
    | _ => cases g1; exact g2 _ (by simp)
  where
  HL_mono {P : Program} {c : Code} {a : AA} {h : AH} {Q R : HX → AA → AH → Prop} (hh : HL P c a h Q) (hr : ∀ e a h, Q e a h → R e a h) : HL P c a h R := fun B ro E w x r rx b k cs hro => by
    obtain ⟨e2, a2, w2, q2, arr⟩ := hh B ro E w x r rx b k cs hro
    exact ⟨e2, a2, w2, q2.mono hr, arr⟩
end Go.Ab

/- AbExec2 -/
namespace Go.Ab
set_option linter.unusedVariables false
set_option linter.unusedSimpArgs false

theorem HW.seq {P : Program} {p q : Code} {a : AA} {h : AH} {Q : HX → AA → AH → Prop} (hh : HW P p a h (seqK (fun a h => HW P q a h Q) Q)) : HW P (.seq p q) a h Q := by
  intro B ro E w x r rx
  refine wpIn_seq (wpIn_mono (hh B ro E w x r rx) ?_)
  rintro e y w' ⟨hx, a', h', E', h1, h2, h3, h4, h6⟩
  cases hx with
  | normal =>
    cases e with
    | normal => exact wpIn_mono (h6 B ro E' w' y h2 h4) fun e y w hp => hp.ext h3
    | _ => cases h1
  | _ =>
    cases e <;> first
      | (cases h1; done)
      | exact ⟨_, a', h', E', h1, h2, h3, h4, h6⟩

theorem HW.block {P : Program} {id : Nat} {p : Code} {a : AA} {h : AH} {Q : HX → AA → AH → Prop} (hh : HW P p a h (blockK id Q)) : HW P (.block id p) a h Q := by
  intro B ro E w x r rx
  refine wpIn_block (wpIn_mono (hh B ro E w x r rx) ?_)
  rintro e y w' ⟨hx, a', h', E', h1, h2, h3, h4, h6⟩
  cases hx with
  | exit i =>
    cases e with
    | exit j =>
      have h1' : i = j := h1
      subst h1'
      simp only [blockK] at h6
      simp only [Exit.inBlock]
      split at h6
      · rename_i e; rw [if_pos e]; exact ⟨.normal, a', h', E', trivial, h2, h3, h4, h6⟩
      · rename_i e; rw [if_neg e]; exact ⟨.exit i, a', h', E', rfl, h2, h3, h4, h6⟩
    | _ => cases h1
  | _ =>
    cases e <;> first
      | (cases h1; done)
      | exact ⟨_, a', h', E', h1, h2, h3, h4, h6⟩

theorem HW.cond {P : Program} {c : Operand} {p q : Code} {a : AA} {h : AH} {b : Bool} {Q : HX → AA → AH → Prop} (hb : a.opnd P c = some (.bool b)) (hh : if b then HW P p a h Q else HW P q a h Q) : HW P (.cond c p q) a h Q := by
  intro B ro E w x r rx
  have hv := rx.rt.opnd r c _ hb
  generalize hx : x.eval c = u at hv
  cases hv
  cases b with
  | true => exact wpIn_cond_true hx ((by simpa using hh : HW P p a h Q) B ro E w x r rx)
  | false => exact wpIn_cond_false hx ((by simpa using hh : HW P q a h Q) B ro E w x r rx)

theorem HW.loop {P : Program} {p : Code} {a : AA} {h : AH} {Q : HX → AA → AH → Prop} (hh : HL P p a h Q) : HW P (.loop p) a h Q := fun B ro E w x r rx => LoopW.wp (hh B ro E w x r rx)
theorem HW.scope {P : Program} {p : Code} {a : AA} {h : AH} {Q : HX → AA → AH → Prop} (hh : HS P p p a h Q) : HW P (.scope p) a h Q := fun B ro E w x r rx => ScopeW.wp (hh B ro E w x r rx)

theorem HS_mono {P : Program} {c d : Code} {a : AA} {h : AH} {Q R : HX → AA → AH → Prop} (hh : HS P c d a h Q) (hr : ∀ e a h, Q e a h → R e a h) : HS P c d a h R := fun B ro E w x r rx b k cs hro => by
  obtain ⟨e2, a2, w2, q2, arr⟩ := hh B ro E w x r rx b k cs hro
  exact ⟨e2, a2, w2, q2.mono hr, arr⟩

theorem HS.of_scopeN {P : Program} {code : CodeF} (hcd : CodeH P code) {c : Code} : ∀ (n : Nat) {d : Code} {a : AA} {h : AH} {L : Outs}, codeM.scopeN code c n d a h = some L → HS P c d a h fun e a' h' => (e, a', h') ∈ L := by
  intro n
  induction n with
  | zero => intro d a h L hh; cases hh
  | succ n ih =>
    intro d a h L hh
    simp only [codeM.scopeN] at hh
    obtain ⟨l, h1, h2⟩ := bindO_eq hh
    refine HS.run ((hcd d a h l h1).mono fun e a' h' hm => ?_)
    obtain ⟨m, g1, g2⟩ := goO_mem h2 e a' h' hm
    cases e with
    | goto i =>
      simp only [scopeK]
      simp only at g1
      split at g1
      · rename_i rest hf
        rw [hf]
        exact HS_mono (ih g1) fun e a h hx => g2 _ hx
      · cases g1
    | _ => cases g1; exact g2 _ (by simp)

theorem HC.of_call {P : Program} {call : CallF} (hc : CallOk P call) {f : FuncId} {args : Array Value} {h h' : AH} {v : Value} {q : Bool} (hh : call f args h = some (v, q, h')) : HC P f args h fun r g => r = .ret v ∧ g = h' :=
  fun E w args' r ra => ((hc f args h v q h' hh).2 E w args' r ra).mono fun e w' ⟨E', v', e1, e2, e3, e4⟩ => ⟨E', .ret v, h', by subst e1; exact e4, e2, e3, rfl, rfl⟩

theorem codeM_H {P : Program} {call : FCall} {code : CodeF} (hcl : FOk P call) (hcd : CodeH P code) (k : Nat) : CodeH P (codeM P call code k) := by
  intro c
  induction c with
  | skip => intro a h L hh B ro E w x r rx; cases hh; exact wpIn_skip ⟨.normal, a, h, E, trivial, r, .refl E w, rx, by simp⟩
  | label l => intro a h L hh B ro E w x r rx; cases hh; exact wpIn_label ⟨.normal, a, h, E, trivial, r, .refl E w, rx, by simp⟩
  | exit id => intro a h L hh B ro E w x r rx; cases hh; exact wpIn_exit ⟨.exit id, a, h, E, rfl, r, .refl E w, rx, by simp⟩
  | goto l => intro a h L hh B ro E w x r rx; cases hh; exact wpIn_goto ⟨.goto l, a, h, E, rfl, r, .refl E w, rx, by simp⟩
  | ret => intro a h L hh B ro E w x r rx; cases hh; exact wpIn_ret ⟨.ret, a, h, E, trivial, r, .refl E w, rx, by simp⟩
  | region id ops draw =>
    intro a h L hh B ro E w x r rx
    simp only [codeM] at hh
    cases draw with
    | false => exact wpR_region (opsM_ok hcl hcd _ (by simpa using hh) (fun e a' h' hm => hm) r (.refl E w) rx)
    | true =>
      simp only [if_true] at hh
      split at hh
      · rename_i a₂ h₂ hr
        cases hh
        exact drawRun_ok hcl.call hr r rx.rt rfl fun E' w' y q1 q2 q3 q4 => ⟨.normal, a₂, h₂, E', trivial, q1, q2, rx.next q2 q3 q4 (drawRun_rnd hr), by simp⟩
      · cases hh
  | seq p q ihp ihq =>
    intro a h L hh
    simp only [codeM] at hh
    obtain ⟨l, h1, h2⟩ := bindO_eq hh
    refine HW.seq ((ihp a h l h1).mono fun e a' h' hm => ?_)
    obtain ⟨m, g1, g2⟩ := goO_mem h2 e a' h' hm
    cases e with
    | normal => exact (ihq a' h' m g1).mono fun e a h hx => g2 _ hx
    | _ => cases g1; exact g2 _ (by simp)
  | cond c p q ihp ihq =>
    intro a h L hh
    simp only [codeM] at hh
    split at hh
    · rename_i hb; exact HW.cond hb (by simpa using ihp a h L hh)
    · rename_i hb; exact HW.cond hb (by simpa using ihq a h L hh)
    · cases hh
  | block id p ihp =>
    intro a h L hh
    simp only [codeM] at hh
    rw [Option.map_eq_some_iff] at hh
    obtain ⟨l, h1, rfl⟩ := hh
    refine HW.block ((ihp a h l h1).mono fun e a' h' hm => ?_)
    have hm' := List.mem_map_of_mem (f := fun (x : HX × AA × AH) => match x with | (e, a', h') => match e with | .exit j => if j = id then (HX.normal, a', h') else (.exit j, a', h') | e => (e, a', h')) hm
    cases e with
    | exit j =>
      simp only [blockK]
      simp only at hm'
      split at hm'
      · rename_i e; rw [if_pos e]; exact hm'
      · rename_i e; rw [if_neg e]; exact hm'
    | _ => exact hm'
  | loop p ihp =>
    intro a h L hh
    exact HW.loop (HL.of_loopM (fun a h L hl => ihp a h L hl) k hh)
  | scope p ihp =>
    intro a h L hh
    simp only [codeM] at hh
    obtain ⟨l, h1, h2⟩ := bindO_eq hh
    refine HW.scope (HS.run ((ihp a h l h1).mono fun e a' h' hm => ?_))
    obtain ⟨m, g1, g2⟩ := goO_mem h2 e a' h' hm
    cases e with
    | goto i =>
      simp only [scopeK]
      simp only at g1
      split at g1
      · rename_i rest hf
        rw [hf]
        exact HS_mono (HS.of_scopeN hcd k g1) fun e a h hx => g2 _ hx
      · cases g1
    | _ => cases g1; exact g2 _ (by simp)
  | rangeFunc g ps p q ihp ihq =>
    intro a h L hh
    simp only [codeM] at hh
    split at hh
    case h_2 => cases hh
    rename_i f first captured hg
    split at hh
    case isFalse => cases hh
    rename_i hb
    rw [Bool.and_eq_true] at hb
    split at hh
    case h_2 => cases hh
    rename_i v fl h' hcall
    split at hh
    case h_2 => cases hh
    rename_i r hr
    split at hh
    case isFalse => cases hh
    rename_i hst
    refine range_ok hg (ar := a) ⟨?_, hb.1, ((hcl _ _ _ _ _ _ _ hcall).2.mono fun res g2 e1 => ?_)⟩ fun E t rt => rt
    · unfold rndP
      have h2 := hb.2
      unfold rndB at h2
      split
      · trivial
      · rename_i k0 hk
        rw [hk] at h2
        exact h2
    · obtain ⟨rfl, rfl⟩ := e1
      refine bq_of hr ⟨hst, ?_⟩
      unfold jumpK jumpX
      split at hh
      · rename_i e; cases hh; rw [e]; simp
      · rename_i e; cases hh; rw [e]; simp
      · rename_i e; cases hh; rw [e]; simp
      · rename_i e; cases hh; rw [e]; simp
      · cases hh
  | _ => intro a h L hh; cases hh

theorem loopM_logs {body : AA → AH → Option Outs} (hb : ∀ a h L, body a h = some L → ∀ x ∈ L, Logs h x.2.2) : ∀ (k : Nat) {a : AA} {h : AH} {L : Outs}, loopM body k a h = some L → ∀ x ∈ L, Logs h x.2.2 := by
  intro k
  induction k with
  | zero => intro a h L hh; cases hh
  | succ k ih =>
    intro a h L hh x hx
    simp only [loopM] at hh
    obtain ⟨l, h1, h2⟩ := bindO_eq hh
    obtain ⟨e, a', h', m, g1, g2, g3⟩ := goO_back h2 x hx
    have := hb a h l h1 _ g1
    cases e with
    | normal => exact this.trans (ih g2 x g3)
    | _ => cases g2; rw [List.mem_singleton.1 g3]; exact this

theorem scopeN_logs {code : CodeF} (hcd : CodeL code) {c : Code} : ∀ (n : Nat) {d : Code} {a : AA} {h : AH} {L : Outs}, codeM.scopeN code c n d a h = some L → ∀ x ∈ L, Logs h x.2.2 := by
  intro n
  induction n with
  | zero => intro d a h L hh; cases hh
  | succ n ih =>
    intro d a h L hh x hx
    simp only [codeM.scopeN] at hh
    obtain ⟨l, h1, h2⟩ := bindO_eq hh
    obtain ⟨e, a', h', m, g1, g2, g3⟩ := goO_back h2 x hx
    have := hcd d a h l h1 _ g1
    cases e with
    | goto i =>
      simp only at g2
      split at g2
      · exact this.trans (ih g2 x g3)
      · cases g2
    | _ => cases g2; rw [List.mem_singleton.1 g3]; exact this

theorem codeM_logs {P : Program} {call : FCall} {code : CodeF} (hcl : FLogs call) (hcd : CodeL code) (k : Nat) : CodeL (codeM P call code k) := by
  have one : ∀ {h : AH} {e : HX} {a : AA} {L : Outs}, some [(e, a, h)] = some L → ∀ x ∈ L, Logs h x.2.2 := by
    intro h e a L hh x hx
    cases hh
    rw [List.mem_singleton.1 hx]
    exact .refl _
  intro c
  induction c with
  | region id ops draw =>
    intro a h L hh
    simp only [codeM] at hh
    cases draw with
    | false => exact opsM_logs hcl hcd _ (by simpa using hh)
    | true =>
      simp only [if_true] at hh
      split at hh
      · rename_i hr
        cases hh
        intro x hx
        rw [List.mem_singleton.1 hx]
        exact drawRun_logs hcl.call hr
      · cases hh
  | seq p q ihp ihq =>
    intro a h L hh x hx
    simp only [codeM] at hh
    obtain ⟨l, h1, h2⟩ := bindO_eq hh
    obtain ⟨e, a', h', m, g1, g2, g3⟩ := goO_back h2 x hx
    have := ihp a h l h1 _ g1
    cases e with
    | normal => exact this.trans (ihq _ _ _ g2 x g3)
    | _ => cases g2; rw [List.mem_singleton.1 g3]; exact this
  | cond c p q ihp ihq =>
    intro a h L hh
    simp only [codeM] at hh
    split at hh
    · exact ihp a h L hh
    · exact ihq a h L hh
    · cases hh
  | block id p ihp =>
    intro a h L hh x hx
    simp only [codeM] at hh
    rw [Option.map_eq_some_iff] at hh
    obtain ⟨l, h1, rfl⟩ := hh
    obtain ⟨⟨e, a', h'⟩, hy, rfl⟩ := List.mem_map.1 hx
    have := ihp a h l h1 _ hy
    cases e with
    | exit j => simp only; split <;> exact this
    | _ => exact this
  | loop p ihp =>
    intro a h L hh
    exact loopM_logs (fun a h L hl => ihp a h L hl) k hh
  | scope p ihp =>
    intro a h L hh x hx
    simp only [codeM] at hh
    obtain ⟨l, h1, h2⟩ := bindO_eq hh
    obtain ⟨e, a', h', m, g1, g2, g3⟩ := goO_back h2 x hx
    have := ihp a h l h1 _ g1
    cases e with
    | goto i =>
      simp only at g2
      split at g2
      · exact this.trans (scopeN_logs hcd k g2 x g3)
      · cases g2
    | _ => cases g2; rw [List.mem_singleton.1 g3]; exact this
  | rangeFunc g ps p q ihp ihq =>
    intro a h L hh
    simp only [codeM] at hh
    split at hh
    case h_2 => cases hh
    split at hh
    case isFalse => cases hh
    split at hh
    case h_2 => cases hh
    rename_i v fl h' hcall
    have hl := (Logs.push h (.loop (recOf a ps p q)) none).trans (hcl _ _ _ _ _ _ _ hcall)
    split at hh
    case h_2 => cases hh
    split at hh
    case isFalse => cases hh
    have fin : ∀ {e : HX}, some [(e, a, h'.put h.size none)] = some L → ∀ x ∈ L, Logs h x.2.2 := by
      intro e he x hx
      cases he
      rw [List.mem_singleton.1 hx]
      exact hl.trans (.put _ _ _)
    split at hh
    · exact fin hh
    · exact fin hh
    · exact fin hh
    · exact fin hh
    · cases hh
  | skip => intro a h L hh; exact one hh
  | label l => intro a h L hh; exact one hh
  | exit id => intro a h L hh; exact one hh
  | goto l => intro a h L hh; exact one hh
  | ret => intro a h L hh; exact one hh
  | _ => intro a h L hh; cases hh

/-! heaps that are the same -/

def oeq : Obj → Obj → Bool
  | .cells c e f, .cells c' e' f' => veq.vall 60 c.toList c'.toList && e == e' && f == f'
  | .map es t, .map es' t' => es.toList.length == es'.toList.length && (es.toList.zip es'.toList).all (fun (x, y) => veq 60 x.key y.key && veq 60 x.val y.val && x.born == y.born) && t == t'
  | .stringIter s p, .stringIter s' p' => decide (s = s') && p == p'
  | .mapIter m a l b, .mapIter m' a' l' b' => m == m' && a == a' && l == l' && b == b'
  | _, _ => false

theorem vall_eq : ∀ (n : Nat) (l k : List Value), veq.vall n l k = true → l = k := by
  intro n l
  induction l with
  | nil => intro k h; cases k with
    | nil => rfl
    | cons _ _ => cases h
  | cons x l ih =>
    intro k h
    cases k with
    | nil => cases h
    | cons y k =>
      simp only [veq.vall, Bool.and_eq_true] at h
      rw [veq_eq n x y h.1, ih k h.2]

theorem oeq_eq {o p : Obj} (h : oeq o p = true) : o = p := by
  unfold oeq at h
  split at h
  · simp only [Bool.and_eq_true, beq_iff_eq] at h
    obtain ⟨⟨h1, h2⟩, h3⟩ := h
    rw [Array.ext' (vall_eq _ _ _ h1), h2, h3]
  · rename_i es t es' t'
    simp only [Bool.and_eq_true, beq_iff_eq] at h
    obtain ⟨⟨h1, h2⟩, h3⟩ := h
    have : es.toList = es'.toList := by
      apply List.ext_getElem h1
      intro i hi hi'
      have := List.all_eq_true.1 h2 (es.toList[i], es'.toList[i]) (by
        rw [List.mem_iff_getElem]
        exact ⟨i, by simp at hi hi' ⊢; omega, by simp⟩)
      simp only [Bool.and_eq_true, beq_iff_eq] at this
      obtain ⟨⟨a, b⟩, c⟩ := this
      have a' := veq_eq _ _ _ a
      have b' := veq_eq _ _ _ b
      cases hx : es.toList[i]
      cases hy : es'.toList[i]
      rw [hx, hy] at a' b' c
      simp only at a' b' c
      rw [a', b', c]
    rw [Array.ext' this, h3]
  · simp only [Bool.and_eq_true, beq_iff_eq, decide_eq_true_eq] at h
    rw [h.1, h.2]
  · simp only [Bool.and_eq_true, beq_iff_eq] at h
    obtain ⟨⟨⟨a, b⟩, c⟩, d⟩ := h
    rw [a, b, c, d]
  · cases h

def teq : T (Obj × Option Nat) → T (Obj × Option Nat) → Bool
  | .leaf, .leaf => true
  | .node v l r, .node v' l' r' => (match v, v' with
    | none, none => true
    | some (o, s), some (o', s') => s == s' && oeq o o'
    | _, _ => false) && teq l l' && teq r r'
  | _, _ => false

theorem teq_eq : ∀ {t u : T (Obj × Option Nat)}, teq t u = true → t = u := by
  intro t
  induction t with
  | leaf => intro u h; cases u with
    | leaf => rfl
    | node _ _ _ => cases h
  | node v l r ihl ihr =>
    intro u h
    cases u with
    | leaf => cases h
    | node v' l' r' =>
      simp only [teq, Bool.and_eq_true] at h
      obtain ⟨⟨h1, h2⟩, h3⟩ := h
      rw [ihl h2, ihr h3]
      congr 1
      split at h1
      · rfl
      · simp only [Bool.and_eq_true, beq_iff_eq] at h1
        rw [h1.1, oeq_eq h1.2]
      · cases h1

def heq (h g : AH) : Bool := h.size == g.size && teq h.tree g.tree
theorem heq_get {h g : AH} (e : heq h g = true) : h.size = g.size ∧ ∀ k, h.get k = g.get k := by
  unfold heq at e
  simp only [Bool.and_eq_true, beq_iff_eq] at e
  exact ⟨e.1, fun k => by unfold AH.get; rw [teq_eq e.2]⟩

/-- elements out of cells -/
def chunk (z : Nat) : Nat → List Value → List Value
  | 0, _ => []
  | n + 1, l => (if z = 1 then l.headD undef else .agg (l.take z).toArray) :: chunk z n (l.drop z)

/-- a slice is said to stay as it is -/
def frz (P : Program) (v : Value) (h : AH) : Option (Value × AH) := match v with
  | .slice (some ⟨k, off, none⟩) len cap => match h.get k with
    | some (.cells c e fz, s) => match P.info? e with
      | some i => let l := chunk i.size len (c.extract off (off + len * i.size)).toList
        if fz = (0, 0) ∧ 0 < i.size ∧ len ≤ cap ∧ off + len * i.size ≤ c.size ∧ l.length = len ∧ (l.all fun v => v.cells.size == i.size) = true ∧ veq.vall 60 (flatC l) (c.extract off (off + len * i.size)).toList = true then
          some (VSl l, h.put k (some (.cells c e (0, 1), s))) else none
      | none => none
    | _ => none
  | _ => none

theorem frz_gh {P : Program} {v v' : Value} {h h' : AH} (hh : frz P v h = some (v', h')) : Gh P h v h' v' := by
  unfold frz at hh
  split at hh
  case h_2 => cases hh
  rename_i k off len cap
  split at hh
  case h_2 => cases hh
  rename_i c e fz s hg
  split at hh
  case h_2 => cases hh
  rename_i i hi
  simp only at hh
  split at hh
  case isFalse => cases hh
  rename_i hc
  obtain ⟨rfl, h1, h2, h3, h4, h5, h6⟩ := hc
  cases hh
  refine Gh.slice hg h1 (fun v hv => by simpa using List.all_eq_true.1 h5 v hv) h4 h2 (fun j v hv => ?_) h3
  rw [vall_eq _ _ _ h6] at hv
  rw [Array.getElem?_toList, Array.getElem?_extract] at hv
  split at hv
  · exact hv
  · cases hv
theorem frz_logs {P : Program} {v v' : Value} {h h' : AH} (hh : frz P v h = some (v', h')) : Logs h h' := by
  unfold frz at hh
  split at hh
  case h_2 => cases hh
  split at hh
  case h_2 => cases hh
  split at hh
  case h_2 => cases hh
  simp only at hh
  split at hh
  case isFalse => cases hh
  cases hh
  exact .put _ _ _

def modeOf : HX → Option DM
  | .normal | .ret => some .ret
  | .panic v => some (.pan v)
  | _ => none

def resM (P : Program) (h : AH) (res : List ResultVar) (fr : Bool) (x : HX × AA × AH) : Option (Bool × Value × Bool × AH) := match modeOf x.1 with
  | some m => match dAll P x.2.1.rnd.dfs x.2.2 m with
    | some (h', .ret) => match resultsOf P x.2.1 h' res with
      | some vs => if fr then match frz P (oneOf vs) h' with
        | some r => some (false, r.1, tidy h r.2 r.1)
        | none => some (false, oneOf vs, tidy h h' (oneOf vs))
        else some (false, oneOf vs, tidy h h' (oneOf vs))
      | none => none
    | some (h', .pan v) => some (true, v, tidy h h' v)
    | _ => none
  | none => none

theorem dOps_logs {P : Program} {ops : Array Oper} : ∀ (l : List Nat) {a : AA} {h : AH} {m : DM} {a₂ : AA} {h₂ : AH} {m₂ : DM}, dOps P ops l a h m = some (a₂, h₂, m₂) → Logs h h₂ := by
  intro l
  induction l with
  | nil => intro a h m a₂ h₂ m₂ hh; cases hh; exact .refl _
  | cons i rest ih =>
    intro a h m a₂ h₂ m₂ hh
    simp only [dOps] at hh
    split at hh
    · exact ih hh
    · split at hh
      case isFalse => cases hh
      split at hh
      · split at hh
        · split at hh <;> exact ih hh
        · split at hh
          · rename_i hop; exact (absOp_logs hop).trans (ih hh)
          · rename_i hop; exact (absOp_logs hop).trans (ih hh)
          · cases hh
      · exact ih hh
theorem dCode_logs {P : Program} : ∀ (c : Code) {a : AA} {h : AH} {m : DM} {e : AX} {a₂ : AA} {h₂ : AH} {m₂ : DM}, dCode P c a h m = some (e, a₂, h₂, m₂) → Logs h h₂ := by
  intro c
  induction c with
  | skip => intro a h m e a₂ h₂ m₂ hh; cases hh; exact .refl _
  | label l => intro a h m e a₂ h₂ m₂ hh; cases hh; exact .refl _
  | ret => intro a h m e a₂ h₂ m₂ hh; cases hh; exact .refl _
  | region id ops draw =>
    intro a h m e a₂ h₂ m₂ hh
    simp only [dCode] at hh
    split at hh
    · cases hh
    split at hh
    · rename_i hops; cases hh; exact dOps_logs _ hops
    · cases hh
  | seq p q ihp ihq =>
    intro a h m e a₂ h₂ m₂ hh
    simp only [dCode] at hh
    split at hh
    · rename_i hp; exact (ihp hp).trans (ihq hh)
    · exact ihp hh
  | cond c p q ihp ihq =>
    intro a h m e a₂ h₂ m₂ hh
    simp only [dCode] at hh
    split at hh
    · exact ihp hh
    · exact ihq hh
    · cases hh
  | _ => intro a h m e a₂ h₂ m₂ hh; cases hh
theorem dAll_logs {P : Program} : ∀ (l : List Value) {h : AH} {m : DM} {y : AH × DM}, dAll P l h m = some y → Logs h y.1 := by
  intro l
  induction l with
  | nil => intro h m y hh; cases hh; exact .refl _
  | cons v l ih =>
    intro h m y hh
    unfold dAll at hh
    split at hh
    · rename_i e; cases e
    · rename_i h m f first cap l₀ e
      cases e
      split at hh
      case h_2 => cases hh
      rename_i h' m' hrun
      refine Logs.trans ?_ (ih hh)
      unfold dRun at hrun
      split at hrun
      case h_2 => cases hrun
      split at hrun
      · cases hrun
      split at hrun
      case h_2 => cases hrun
      split at hrun
      · rename_i hc
        split at hrun
        · cases hrun; exact dCode_logs _ hc
        · cases hrun
      · rename_i hc
        split at hrun
        · cases hrun; exact dCode_logs _ hc
        · cases hrun
      · cases hrun
    · cases hh

theorem resM_eq {P : Program} {h : AH} {res : List ResultVar} {fr : Bool} {x : HX × AA × AH} {s : Bool × Value × Bool × AH} (hh : resM P h res fr x = some s) :
    ∃ m y, modeOf x.1 = some m ∧ dAll P x.2.1.rnd.dfs x.2.2 m = some y ∧ Logs x.2.2 y.1 ∧ ((s.1 = true ∧ y.2 = .pan s.2.1 ∧ s.2.2 = tidy h y.1 s.2.1) ∨
      (s.1 = false ∧ y.2 = .ret ∧ ∃ vs g, resultsOf P x.2.1 y.1 res = some vs ∧ Gh P y.1 (oneOf vs) g s.2.1 ∧ Logs y.1 g ∧ s.2.2 = tidy h g s.2.1)) := by
  unfold resM at hh
  split at hh
  case h_2 => cases hh
  rename_i m hm
  split at hh
  · rename_i h' hd
    refine ⟨m, (h', .ret), hm, hd, dAll_logs _ hd, .inr ?_⟩
    split at hh
    case h_2 => cases hh
    rename_i vs hvs
    have plain : some (false, oneOf vs, tidy h h' (oneOf vs)) = some s → s.1 = false ∧ DM.ret = .ret ∧ ∃ vs g, resultsOf P x.2.1 h' res = some vs ∧ Gh P h' (oneOf vs) g s.2.1 ∧ Logs h' g ∧ s.2.2 = tidy h g s.2.1 := by
      intro e
      have e0 := congrArg Prod.fst (Option.some.inj e)
      have e1 := congrArg (fun x => x.2.1) (Option.some.inj e)
      have e2 := congrArg (fun x => x.2.2) (Option.some.inj e)
      simp only at e0 e1 e2
      exact ⟨e0.symm, rfl, vs, h', hvs, by rw [← e1]; exact .refl P h' _, .refl _, by rw [← e2, ← e1]⟩
    split at hh
    · split at hh
      · rename_i r hr
        have e0 := congrArg Prod.fst (Option.some.inj hh)
        have e1 := congrArg (fun x => x.2.1) (Option.some.inj hh)
        have e2 := congrArg (fun x => x.2.2) (Option.some.inj hh)
        simp only at e0 e1 e2
        have hr' : frz P (oneOf vs) h' = some (r.1, r.2) := hr
        exact ⟨e0.symm, rfl, vs, r.2, hvs, by rw [← e1]; exact frz_gh hr', frz_logs hr', by rw [← e2, ← e1]⟩
      · exact plain hh
    · exact plain hh
  · rename_i h' v hd
    have e0 := congrArg Prod.fst (Option.some.inj hh)
    have e1 := congrArg (fun x => x.2.1) (Option.some.inj hh)
    have e2 := congrArg (fun x => x.2.2) (Option.some.inj hh)
    simp only at e0 e1 e2
    exact ⟨m, (h', .pan v), hm, hd, dAll_logs _ hd, .inl ⟨e0.symm, by rw [e1], by rw [← e2, ← e1]⟩⟩
  · cases hh

def oneF (P : Program) (h : AH) (res : List ResultVar) (fr : Bool) : Outs → Option (Bool × Value × Bool × AH)
  | [] => none
  | x :: l => match resM P h res fr x with
    | some r => if l.all fun y => match resM P h res fr y with
      | some s => s.1 == r.1 && veq 60 s.2.1 r.2.1 && heq s.2.2.2 r.2.2.2
      | none => false
      then some r else none
    | none => none

/-- all ways come to the same; or they do if the slice that is given back is said to stay as it is -/
def oneM (P : Program) (h : AH) (res : List ResultVar) (L : Outs) : Option (Bool × Value × Bool × AH) := match oneF P h res false L with
  | some r => some r
  | none => oneF P h res true L

theorem oneM_eq {P : Program} {h : AH} {res : List ResultVar} {L : Outs} {r : Bool × Value × Bool × AH} (hh : oneM P h res L = some r) :
    (∃ x fr, x ∈ L ∧ resM P h res fr x = some r) ∧ ∃ fr, ∀ x ∈ L, ∃ s, resM P h res fr x = some s ∧ s.1 = r.1 ∧ s.2.1 = r.2.1 ∧ s.2.2.2.size = r.2.2.2.size ∧ ∀ k, s.2.2.2.get k = r.2.2.2.get k := by
  have key : ∀ fr, oneF P h res fr L = some r → (∃ x fr, x ∈ L ∧ resM P h res fr x = some r) ∧ ∃ fr, ∀ x ∈ L, ∃ s, resM P h res fr x = some s ∧ s.1 = r.1 ∧ s.2.1 = r.2.1 ∧ s.2.2.2.size = r.2.2.2.size ∧ ∀ k, s.2.2.2.get k = r.2.2.2.get k := by
    intro fr hh
    cases L with
    | nil => simp [oneF] at hh
    | cons y l =>
      simp only [oneF] at hh
      split at hh
      case h_2 => cases hh
      rename_i s hs
      split at hh
      case isFalse => cases hh
      rename_i hall
      cases hh
      refine ⟨⟨y, fr, by simp, hs⟩, fr, fun x hx => ?_⟩
      rcases List.mem_cons.1 hx with rfl | hx
      · exact ⟨_, hs, rfl, rfl, rfl, fun _ => rfl⟩
      · have := List.all_eq_true.1 hall x hx
        split at this
        · rename_i s2 hs2
          simp only [Bool.and_eq_true, beq_iff_eq] at this
          obtain ⟨g1, g2⟩ := heq_get this.2
          exact ⟨s2, hs2, this.1.1, veq_eq _ _ _ this.1.2, g1, g2⟩
        · cases this
  unfold oneM at hh
  split at hh
  · rename_i s hs; cases hh; exact key false hs
  · exact key true hh

def fnStep (P : Program) (call : FCall) (code : CodeF) (n : Nat) : FCall := fun f args h => match P.funcs[f]? with
  | some fn => match fn.body with
    | some c => match codeM P call code n c (argA args.toList fn.ntmps) { h with log := [] } with
      | some L => oneM P h fn.results.toList L
      | none => none
    | none => none
  | none => none

theorem fnStep_logs {P : Program} {call : FCall} {code : CodeF} (hcl : FLogs call) (hcd : CodeL code) (n : Nat) : ∀ f args h p v q h', fnStep P call code n f args h = some (p, v, q, h') → Logs h h' ∧ (q = false → h' = h) := by
  intro f args h p v q h' hh
  unfold fnStep at hh
  split at hh
  case h_2 => cases hh
  split at hh
  case h_2 => cases hh
  split at hh
  case h_2 => cases hh
  rename_i L hL
  obtain ⟨⟨x, fr, hx, hr⟩, _⟩ := oneM_eq hh
  have hlg := codeM_logs hcl hcd n _ _ _ _ hL x hx
  obtain ⟨m, y, g0, g1, g2, g3⟩ := resM_eq hr
  rcases g3 with ⟨_, _, g4⟩ | ⟨_, _, vs, g, _, _, g3, g4⟩
  · have a1 : (tidy h y.1 v).1 = q := (congrArg Prod.fst g4).symm
    have a2 : (tidy h y.1 v).2 = h' := (congrArg Prod.snd g4).symm
    rw [← a1, ← a2]
    exact tidy_logs (hlg.trans g2)
  · have a1 : (tidy h g v).1 = q := (congrArg Prod.fst g4).symm
    have a2 : (tidy h g v).2 = h' := (congrArg Prod.snd g4).symm
    rw [← a1, ← a2]
    exact tidy_logs (hlg.trans (g2.trans g3))

theorem fnStep_ok {P : Program} {call : FCall} {code : CodeF} (hcl : FOk P call) (hcd : CodeH P code) (hcl2 : FLogs call) (hcd2 : CodeL code) (n : Nat) : FOk P (fnStep P call code n) := by
  intro f args h p v q h' hh
  refine ⟨fun _ => (fnStep_logs hcl2 hcd2 n f args h p v q h' hh).2, fun E w args' r ra => ?_⟩
  unfold fnStep at hh
  split at hh
  case h_2 => cases hh
  rename_i fn hf
  split at hh
  case h_2 => cases hh
  rename_i c hb
  split at hh
  case h_2 => cases hh
  rename_i L hL
  have r0 : RW P E { h with log := [] } w := r.less (Nat.le_refl _) fun k y hk => hk
  have hlogs := codeM_logs hcl2 hcd2 n _ _ _ _ hL
  obtain ⟨_, fr, each⟩ := oneM_eq hh
  have hw := codeM_H hcl hcd n c _ _ _ hL
  have hc : HC P f args.toList.toArray { h with log := [] } fun res g => ∃ u g₀ g', res = resOf p u ∧ Gh P g u g₀ v ∧ Logs { h with log := [] } g₀ ∧ g' = (tidy h g₀ v).2 ∧ g'.size = h'.size ∧ ∀ k, g'.get k = h'.get k := by
    refine HC.bodyW hf hb (hw.mono fun e a g hm => ?_)
    obtain ⟨s, s1, s2, s3, s4, s5⟩ := each _ hm
    have hl := hlogs _ hm
    obtain ⟨m, y, t0, t1, t2, t3⟩ := resM_eq s1
    simp only at s2 s3 s4 s5 t0 t1 t2 t3
    have fin : bq (dAll P a.rnd.dfs g m) (fun y => leftK P fn.results.toList a (fun res g => ∃ u g₀ g', res = resOf p u ∧ Gh P g u g₀ v ∧ Logs { h with log := [] } g₀ ∧ g' = (tidy h g₀ v).2 ∧ g'.size = h'.size ∧ ∀ k, g'.get k = h'.get k) y) := by
      refine bq_of t1 ?_
      obtain ⟨yh, ym⟩ := y
      rcases t3 with ⟨u1, u2, u3⟩ | ⟨u1, u2, vs, g₀, u3, u4, u5, u6⟩
      · simp only at u2 u3
        rw [u2]
        have hp : p = true := s2 ▸ u1
        exact ⟨s.2.1, yh, s.2.2.2, by rw [hp]; rfl, by rw [← s3]; exact .refl P _ _, hl.trans t2, by rw [← s3]; exact congrArg Prod.snd u3, s4, s5⟩
      · simp only at u2 u3 u4 u5 u6
        rw [u2]
        have hp : p = false := s2 ▸ u1
        exact bq_of u3 ⟨oneOf vs, g₀, s.2.2.2, by rw [hp]; rfl, by rw [← s3]; exact u4, hl.trans (t2.trans u5), by rw [← s3]; exact congrArg Prod.snd u6, s4, s5⟩
    cases e with
    | normal => cases t0; exact fin
    | ret => cases t0; exact fin
    | panic w => cases t0; exact fin
    | exit i => cases t0
    | goto i => cases t0
  rw [Array.toArray_toList] at hc
  refine (hc E w args' r0 ra).mono ?_
  rintro e w' ⟨E', res, g, q1, q2, q3, u, g₀, g', rfl, hgh, hl, rfl, hsz, hget⟩
  have fin : ∀ u', RV E' u u' → ∃ E2, RW P E2 h' w' ∧ Ext E w E2 w' ∧ RV E2 v u' := by
    intro u' hu
    obtain ⟨E1, r1, x1, v1⟩ := hgh E' w' u' q2 hu
    obtain ⟨E2, p1, p2, p3⟩ := tidy_ok r r1 (q3.trans x1) v1 hl
    exact ⟨E2, p1.less (by omega) (fun k y hk => by rw [hget]; exact hk), p2, p3⟩
  cases p with
  | false =>
    cases e with
    | returned u' =>
      obtain ⟨E2, p1, p2, p3⟩ := fin u' q1
      exact ⟨E2, .ret v, h', p3, p1, p2, rfl, rfl⟩
    | _ => cases q1
  | true =>
    cases e with
    | panicked chain =>
      obtain ⟨u', hc', hu⟩ := q1
      obtain ⟨E2, p1, p2, p3⟩ := fin u' hu
      exact ⟨E2, .pan v, h', ⟨u', hc', p3⟩, p1, p2, rfl, rfl⟩
    | _ => cases q1

/-- functions of which it is given what they do, and the others by their code -/
def lv (P : Program) (X : CallF) : Nat → FCall × CodeF
  | 0 => (fun _ _ _ => none, fun _ _ _ => none)
  | n + 1 => (fun f args h => match X f args h with
    | some (v, q, h') => some (false, v, q, h')
    | none => fnStep P (lv P X n).1 (lv P X n).2 n f args h, codeM P (lv P X n).1 (lv P X n).2 n)

theorem lv_logs (P : Program) {X : CallF} (hX : CallLogs X) : ∀ n, FLogs (lv P X n).1 ∧ CodeL (lv P X n).2 := by
  intro n
  induction n with
  | zero => exact ⟨fun f args h p v q h' hh => by (cases hh), fun c a h L hh => by (cases hh)⟩
  | succ n ih =>
    refine ⟨fun f args h p v q h' hh => ?_, codeM_logs ih.1 ih.2 n⟩
    simp only [lv] at hh
    split at hh
    · rename_i v q h' hr
      cases hh
      exact hX f args h _ _ _ hr
    · exact (fnStep_logs ih.1 ih.2 n f args h p v q h' hh).1

theorem lv_ok (P : Program) {X : CallF} (hX : CallOk P X) (hl : CallLogs X) : ∀ n, FOk P (lv P X n).1 ∧ CodeH P (lv P X n).2 := by
  intro n
  induction n with
  | zero => exact ⟨fun f args h p v q h' hh => by (cases hh), fun c a h L hh => by (cases hh)⟩
  | succ n ih =>
    have il := lv_logs P hl n
    refine ⟨fun f args h p v q h' hh => ?_, codeM_H ih.1 ih.2 n⟩
    simp only [lv] at hh
    split at hh
    · rename_i v q h' hr
      cases hh
      exact ⟨fun _ => (hX f args h _ _ _ hr).1, HC.of_call hX hr⟩
    · exact fnStep_ok ih.1 ih.2 il.1 il.2 n f args h p v q h' hh

/-- a whole run: did it panic, the value, may it have changed the heap, the heap -/
abbrev run (P : Program) (n : Nat) : FCall := (lv P (fun _ _ _ => none) n).1

theorem HC.of_run {P : Program} (n : Nat) {f : FuncId} {args : Array Value} {h h' : AH} {p : Bool} {v : Value} {q : Bool} (hh : run P n f args h = some (p, v, q, h')) : HC P f args h fun r g => r = resOf p v ∧ g = h' :=
  ((lv_ok P (fun f args h v q h' hh => by cases hh) (fun f args h v q h' hh => by cases hh) n).1 _ _ _ _ _ _ _ hh).2

theorem Ex.of_run {P : Program} (n : Nat) {f : FuncId} {args : Array Value} {h h' : AH} {v : Value} {q : Bool} (hh : run P n f args h = some (false, v, q, h')) : Ex P f args h v h' := HC.of_run n hh

end Go.Ab

/- AbLaid -/
namespace Go.Ab
set_option linter.unusedVariables false
set_option linter.unusedSimpArgs false

def laidL (f : DataW Unit → Option (List Value)) (s : Nat) : List (DataW Unit) → Option (List Value)
  | [] => some []
  | d :: ds => match f d, laidL f s ds with
    | some v, some vs => if v.length = s then some (v ++ vs) else none
    | _, _ => none

def laidF (P : Program) (f : TypeId → DataW Unit → Option (List Value)) : Nat → List Field → List (DataW Unit) → Option (List Value)
  | _, [], [] => some []
  | off, g :: gs, d :: ds => if g.offset = off then match f g.type d with
    | some v => if v.length = P.cellsOf g.type then match laidF P f (off + v.length) gs ds with
      | some vs => some (v ++ vs)
      | none => none
      else none
    | none => none
    else none
  | _, _, _ => none

/-- the cells that a datum without pointers stands for -/
def laidC (P : Program) : Nat → TypeId → DataW Unit → Option (List Value)
  | 0, _, _ => none
  | n + 1, t, d => match P.underlying t with
    | some (.int _) => match d with
      | .lit (.int k x) => some [.int k x]
      | _ => none
    | some .bool => match d with
      | .lit (.bool b) => some [.bool b]
      | _ => none
    | some .string => match d with
      | .lit (.string l) => some [.string ⟨l.toArray⟩]
      | _ => none
    | some (.array m e) => match d with
      | .agg ds => if P.cellsOf t = m * P.cellsOf e then laidL (laidC P n e) (P.cellsOf e) ds else none
      | _ => none
    | some (.struct fs) => match d with
      | .agg ds => match laidF P (laidC P n) 0 fs.toList ds with
        | some vs => if vs.length = P.cellsOf t then some vs else none
        | none => none
      | _ => none
    | _ => none

theorem chunks_eq {α : Type} {s : Nat} : ∀ {m : Nat} {a b : List α}, a.length = m * s → b.length = m * s → (∀ i, i < m → (a.drop (i * s)).take s = (b.drop (i * s)).take s) → a = b := by
  intro m
  induction m with
  | zero =>
    intro a b ha hb _
    have e1 : a = [] := List.eq_nil_of_length_eq_zero (by simpa using ha)
    have e2 : b = [] := List.eq_nil_of_length_eq_zero (by simpa using hb)
    rw [e1, e2]
  | succ m ih =>
    intro a b ha hb h
    have h0 := h 0 (by omega)
    simp only [Nat.zero_mul, List.drop_zero] at h0
    have e : a.drop s = b.drop s := by
      refine ih (by rw [List.length_drop, ha, Nat.succ_mul]; omega) (by rw [List.length_drop, hb, Nat.succ_mul]; omega) fun i hi => ?_
      have := h (i + 1) (by omega)
      rw [List.drop_drop, List.drop_drop]
      rw [show s + i * s = (i + 1) * s by rw [Nat.succ_mul]; omega]
      exact this
    rw [← List.take_append_drop s a, ← List.take_append_drop s b, h0, e]

theorem laidL_eq {f : DataW Unit → Option (List Value)} {s : Nat} : ∀ {ds : List (DataW Unit)} {vs : List Value}, laidL f s ds = some vs → vs.length = ds.length * s ∧ ∀ (i : Nat) d, ds[i]? = some d → ∃ v, f d = some v ∧ (vs.drop (i * s)).take s = v := by
  intro ds
  induction ds with
  | nil => intro vs h; cases h; exact ⟨by simp, fun i d hd => by simp at hd⟩
  | cons d ds ih =>
    intro vs h
    simp only [laidL] at h
    split at h
    · rename_i v ws hv hw
      split at h
      · rename_i hl
        cases h
        obtain ⟨h1, h2⟩ := ih hw
        refine ⟨by rw [List.length_append, List.length_cons, Nat.succ_mul]; omega, fun i x hx => ?_⟩
        cases i with
        | zero =>
          simp at hx; subst hx
          exact ⟨v, hv, by simp [← hl]⟩
        | succ i =>
          obtain ⟨u, g1, g2⟩ := h2 i x (by simpa using hx)
          refine ⟨u, g1, ?_⟩
          rw [show (i + 1) * s = v.length + i * s by rw [hl, Nat.succ_mul]; omega, ← List.drop_drop, List.drop_left]
          exact g2
      · cases h
    · cases h

theorem laidF_eq {P : Program} {f : TypeId → DataW Unit → Option (List Value)} {cs : List Value} {g : Field → Option (DataW Unit × List MemPlace)} (hg : ∀ x y v, g x = some y → f x.type y.1 = some v → v.length = P.cellsOf x.type → (cs.drop x.offset).take (P.cellsOf x.type) = v) :
    ∀ {fs : List Field} {ds : List (DataW Unit)} {off : Nat} {vs : List Value} {xs : List (DataW Unit × List MemPlace)}, laidF P f off fs ds = some vs → fs.mapM g = some xs → ds = xs.map (·.1) → (cs.drop off).take vs.length = vs := by
  intro fs
  induction fs with
  | nil =>
    intro ds off vs xs h hm hd
    cases ds with
    | nil => simp only [laidF] at h; cases h; rfl
    | cons => simp only [laidF] at h; cases h
  | cons x fs ih =>
    intro ds off vs xs h hm hd
    cases ds with
    | nil => simp only [laidF] at h; cases h
    | cons d ds =>
      simp only [laidF] at h
      split at h
      case isFalse => cases h
      rename_i hoff
      split at h
      case h_2 => cases h
      rename_i v hv
      split at h
      case isFalse => cases h
      rename_i hl
      split at h
      case h_2 => cases h
      rename_i ws hw
      cases h
      rw [List.mapM_cons] at hm
      simp only [Option.bind_eq_bind, Option.bind_eq_some_iff, Option.pure_def, Option.some.injEq] at hm
      obtain ⟨y, hy, ys, hys, rfl⟩ := hm
      simp only [List.map_cons, List.cons.injEq] at hd
      obtain ⟨rfl, rfl⟩ := hd
      have h1 := hg x y v hy hv hl
      have h2 := ih hw hys rfl
      rw [hoff, ← hl] at h1
      rw [List.length_append, List.take_add, h1, List.drop_drop]
      rw [h2]

theorem laidC_eq {P : Program} {w : World} {base : Nat} {sp : Nat → Bool} {held : Bool} : ∀ (n : Nat) {fuel : Nat} {t : TypeId} {cs vs : List Value} {d : DataW Unit} {p : List MemPlace},
    laidC P n t d = some vs → DataW.trod (fun _ => ()) P w base sp held fuel t cs = some (d, p) → cs = vs := by
  intro n
  induction n with
  | zero => intro fuel t cs vs d p h; cases h
  | succ n ih =>
    intro fuel t cs vs d p h ht
    cases fuel with
    | zero => cases ht
    | succ fuel =>
      unfold laidC at h
      unfold DataW.trod at ht
      split at h
      · rename_i k hu
        rw [hu] at ht
        simp only at ht
        split at ht <;> first
          | (cases ht; done)
          | skip
        · rename_i e; cases e
        · rename_i k1 k2 m e
          cases e
          split at ht
          · rename_i hk
            cases ht
            simp only at h
            cases h
            rw [hk.1]
          · cases ht
        all_goals (rename_i e; cases e)
      · rename_i hu
        rw [hu] at ht
        simp only at ht
        split at ht <;> first
          | (cases ht; done)
          | skip
        · cases ht; simp only at h; cases h; rfl
        all_goals (rename_i e; cases e)
      · rename_i hu
        rw [hu] at ht
        simp only at ht
        split at ht <;> first
          | (cases ht; done)
          | skip
        all_goals first
          | (rename_i e; cases e; done)
          | skip
        split at ht
        · cases ht
          simp only at h
          cases h
          rfl
        · cases ht
      · rename_i m e hu
        rw [hu] at ht
        simp only at ht
        split at ht
        · rename_i hlen
          rw [Option.map_eq_some_iff] at ht
          obtain ⟨xs, hx, hxe⟩ := ht
          cases hxe
          simp only at h
          split at h
          case isFalse => cases h
          rename_i hcells
          obtain ⟨h1, h2⟩ := laidL_eq h
          obtain ⟨g1, g2⟩ := mapM_get hx
          rw [List.length_range] at g1
          refine chunks_eq (m := m) (s := P.cellsOf e) (by rw [hlen, hcells]) (by rw [h1, List.length_map, ← g1]) fun i hi => ?_
          obtain ⟨y, k1, k2⟩ := g2 i i (by rw [List.getElem?_range hi])
          obtain ⟨v, k3, k4⟩ := h2 i y.1 (by rw [List.getElem?_map, k2]; rfl)
          rw [ih k3 k1, k4]
        · cases ht
      · rename_i fs hu
        rw [hu] at ht
        simp only at ht
        split at ht
        · rename_i hlen
          rw [Option.map_eq_some_iff] at ht
          obtain ⟨xs, hx, hxe⟩ := ht
          cases hxe
          simp only at h
          split at h
          case h_2 => cases h
          rename_i ws hw
          split at h
          case isFalse => cases h
          rename_i hl
          cases h
          have := laidF_eq (cs := cs) (fun x y v hy hv _ => ih hv hy) hw hx rfl
          rw [List.drop_zero, hl, ← hlen, List.take_length] at this
          exact this
        · cases ht
      · cases h

/-- the type of a package-level variable's row -/
def rowT (P : Program) (g : Nat) : Option TypeId := (((begin P (fun _ _ => 0) default).world.heap[g]?).bind Obj.row?).map (·.2)

/-- one variable that is said to read as a datum; of what is no plain datum nothing is known -/
def laid1 (P : Program) (x : String × DataW Unit) : Option (Nat × Array Value × TypeId) := match P.globalNamed x.1 with
  | some g => match (P.globals[g]?).map (·.type) with
    | some t => match laidC P 20 t x.2, rowT P g with
      | some vs, some e => if vs.all plain then some (g, vs.toArray, e) else none
      | _, _ => none
    | none => none
  | none => none

def laidT (P : Program) : List (String × DataW Unit) → T (Obj × Option Nat)
  | [] => .leaf
  | x :: l => match laid1 P x with
    | some (g, c, e) => (laidT P l).put (g + 1) (g + 1) (some (.cells c e (0, 1), none))
    | none => laidT P l

/-- the heap at the beginning of a call: of package-level variables just this is known -/
def AH.laid (P : Program) (l : List (String × DataW Unit)) : AH := ⟨laidT P l, P.globals.size, []⟩

theorem laidT_get {P : Program} {w : World} (hv : ∀ g e, rowT P g = some e → g < P.globals.size → ∃ c, w.heap[g]? = some (.cells c e)) : ∀ {l : List (String × DataW Unit)} {ps : List MemPlace}, DataW.LaidVars P w l ps →
    ∀ k o s, (laidT P l).get (k + 1) = some (o, s) → s = none ∧ k < P.globals.size ∧ ∃ c e fz, o = .cells c e (0, 1) ∧ w.heap[k]? = some (.cells c e fz) ∧ ∀ v ∈ c.toList, plain v = true := by
  intro l
  induction l with
  | nil => intro ps _ k o s h; simp [laidT, T.get] at h
  | cons x l ih =>
    intro ps hl k o s h
    obtain ⟨n, d⟩ := x
    obtain ⟨g, t, cs, fuel, p, q, h1, h2, h3, h4, h5, _⟩ := hl
    simp only [laidT] at h
    split at h
    · rename_i g' c e he
      rw [T.get_put _ _ _ _ _ (by omega) (Nat.le_refl _) (by omega)] at h
      split at h
      · rename_i hk
        have hk' : k = g' := by omega
        subst hk'
        cases h
        unfold laid1 at he
        rw [h1] at he
        simp only [h2] at he
        split at he
        case h_2 => cases he
        rename_i vs e' hvs hrow
        split at he
        case isFalse => cases he
        rename_i hpl
        cases he
        have hlt : k < P.globals.size := by
          cases hg : P.globals[k]? with
          | none => rw [hg] at h2; cases h2
          | some _ => exact (Array.getElem?_eq_some_iff.1 hg).1
        obtain ⟨c', hc'⟩ := hv k e hrow hlt
        unfold World.var? at h3
        rw [h1] at h3
        simp only [Option.bind_some, hc'] at h3
        cases h3
        have := laidC_eq 20 hvs h4
        refine ⟨rfl, hlt, vs.toArray, e, (0, 0), rfl, ?_, fun v hv => List.all_eq_true.1 hpl v (by simpa using hv)⟩
        rw [hc', ← this]
      · exact ih h5 k o s h
    · exact ih h5 k o s h

/-- a heap of package-level variables of which some cells are known -/
theorem rw_known {P : Program} {w : World} (hsz : P.globals.size ≤ w.heap.size) {h : AH} (hs : h.size = P.globals.size) (hget : ∀ k o s, h.get k = some (o, s) → s = none ∧ k < P.globals.size ∧ ∃ c e fz c', o = .cells c e (0, 1) ∧
    w.heap[k]? = some (.cells c' e fz) ∧ c.size ≤ c'.size ∧ (∀ (i : Nat) v, c[i]? = some v → c'[i]? = some v) ∧ ∀ v ∈ c.toList, plain v = true) : RW P (stillR P w) h w := by
  have b := rw_bare (P := P) hsz
  refine ⟨b.glob, fun k n hk => by rw [hs]; exact b.dom k n hk, b.sdom, fun k o s hk => ?_, fun j k n hj hk gj gk => ?_, b.frz, fun k o s n hk hn hf => ?_, b.sep⟩
  · obtain ⟨rfl, hlt, c, e, fz, c', rfl, hw, hle, hcc, hp⟩ := hget k o s hk
    refine ⟨k, _, b.glob k hlt, hw, .ice hle fun i v v' h1 h2 => ?_, rfl⟩
    rw [hcc i v h1] at h2
    cases h2
    exact RV.of_plain (hp v (List.mem_of_getElem? (by rw [Array.getElem?_toList]; exact h1)))
  · have hlj := (b.dom j n hj).1
    have hlk := (b.dom k n hk).1
    have e1 := b.glob j hlj
    have e2 := b.glob k hlk
    rw [hj] at e1; rw [hk] at e2
    cases e1; cases e2; rfl
  · obtain ⟨rfl, _, c, e, fz, c', rfl, _⟩ := hget k o s hk
    rfl

theorem laid_get {P : Program} {w : World} {l : List (String × DataW Unit)} (hv : varsB P = true) (hs : w.ShapedOpen P) (hh : (l.filter fun x => x.2.handleName?.isSome).isEmpty = true) (hl : laidMetH P l w) :
    ∀ k o s, (AH.laid P l).get k = some (o, s) → s = none ∧ k < P.globals.size ∧ ∃ c e fz, o = .cells c e (0, 1) ∧ w.heap[k]? = some (.cells c e fz) ∧ ∀ v ∈ c.toList, plain v = true := by
  unfold laidMetH at hl
  rw [List.isEmpty_iff] at hh
  rw [hh] at hl
  obtain ⟨ps, hl, _⟩ := hl
  exact laidT_get (P := P) (w := w) (fun g e he hg => by
    have h1 := List.all_eq_true.1 hv g (List.mem_range.2 hg)
    unfold rowT at he
    rw [Option.map_eq_some_iff] at he
    obtain ⟨⟨zero, t⟩, hx, rfl⟩ := he
    obtain ⟨cs, h2, _⟩ := hs.1 g zero t hg hx
    exact ⟨cs, h2⟩) hl

theorem rw_laid {P : Program} {w : World} {l : List (String × DataW Unit)} (hv : varsB P = true) (hs : w.ShapedOpen P) (hh : (l.filter fun x => x.2.handleName?.isSome).isEmpty = true) (hl : laidMetH P l w) : RW P (stillR P w) (AH.laid P l) w :=
  rw_known (vars_size (vars_rows hv hs)) rfl fun k o s hk => by
    obtain ⟨h1, h2, c, e, fz, h3, h4, h5⟩ := laid_get hv hs hh hl k o s hk
    exact ⟨h1, h2, c, e, fz, c, h3, h4, Nat.le_refl _, fun _ _ h => h, h5⟩

/-- the same where of one more variable it is known that it holds an int -/
def AH.laidM (P : Program) (l : List (String × DataW Unit)) (g : Nat) (e : TypeId) (m : Int) : AH := (AH.laid P l).put g (some (.cells #[.int .i64 m] e (0, 1), none))

theorem rw_laidM {P : Program} {w : World} {l : List (String × DataW Unit)} (hv : varsB P = true) (hs : w.ShapedOpen P) (hh : (l.filter fun x => x.2.handleName?.isSome).isEmpty = true) (hl : laidMetH P l w) {g : Nat} {e : TypeId} {m : Int}
    (hg : g < P.globals.size) (he : rowT P g = some e) (hm : w.cell? ⟨g, 0, none⟩ = some (.int .i64 m)) : RW P (stillR P w) (AH.laidM P l g e m) w :=
  rw_known (vars_size (vars_rows hv hs)) rfl fun k o s hk => by
    unfold AH.laidM at hk
    rw [AH.get_put] at hk
    split at hk
    · rename_i e1; subst e1; cases hk
      have h1 := List.all_eq_true.1 hv k (List.mem_range.2 hg)
      unfold rowT at he
      rw [Option.map_eq_some_iff] at he
      obtain ⟨⟨zero, t⟩, hx, rfl⟩ := he
      obtain ⟨cs, h2, _⟩ := hs.1 k zero t hg hx
      have h3 : cs[0]? = some (.int .i64 m) := by simpa [World.cell?, h2] using hm
      refine ⟨rfl, hg, #[.int .i64 m], t, _, cs, rfl, h2, ?_, fun i v hi => ?_, fun v hv => ?_⟩
      · have := (Array.getElem?_eq_some_iff.1 h3).1; simp; omega
      · cases i with
        | zero => simp at hi; rw [← hi]; exact h3
        | succ i => simp at hi
      · simp at hv; subst hv; rfl
    · obtain ⟨h1, h2, c, e, fz, h3, h4, h5⟩ := laid_get hv hs hh hl k o s hk
      exact ⟨h1, h2, c, e, fz, c, h3, h4, Nat.le_refl _, fun _ _ h => h, h5⟩

end Go.Ab

/- AbLib -/
namespace Go.Ab
set_option linter.unusedVariables false
set_option linter.unusedSimpArgs false

/-- functions of which it is given what they do, beside others -/
def orX (X Y : CallF) : CallF := fun f args h => match X f args h with
  | some r => some r
  | none => Y f args h
theorem orX_ok {P : Program} {X Y : CallF} (hx : CallOk P X) (hy : CallOk P Y) : CallOk P (orX X Y) := by
  intro f args h v q h' hh
  unfold orX at hh
  split at hh
  · rename_i r hr; cases hh; exact hx _ _ _ _ _ _ hr
  · exact hy _ _ _ _ _ _ hh
theorem orX_logs {X Y : CallF} (hx : CallLogs X) (hy : CallLogs Y) : CallLogs (orX X Y) := by
  intro f args h v q h' hh
  unfold orX at hh
  split at hh
  · rename_i r hr; cases hh; exact hx _ _ _ _ _ _ hr
  · exact hy _ _ _ _ _ _ hh

/-- strings.Index and its like: two texts, and a package-level variable of whatever value -/
def idxX (f g : Nat) : CallF := fun f' args h => if f' = f then match args.toList with
  | [.string s, .string t] => match h.get g with
    | some (.cells c _ _, _) => match (c[0]? : Option Value) with
      | some (.int .i64 _) => if s.size < 4294967281 then some (.int .i64 (Lib.index s.data.toList t.data.toList), false, h) else none
      | _ => none
    | _ => none
  | _ => none
  else none

theorem idxX_eq {f g : Nat} {f' : FuncId} {args : Array Value} {h h' : AH} {v : Value} {q : Bool} (hh : idxX f g f' args h = some (v, q, h')) : f' = f ∧ h' = h ∧ q = false ∧ ∃ s t c e fz so m, args = #[.string s, .string t] ∧ h.get g = some (.cells c e fz, so) ∧ c[0]? = some (.int .i64 m) ∧ s.size < 4294967281 ∧ v = .int .i64 (Lib.index s.data.toList t.data.toList) := by
  unfold idxX at hh
  split at hh
  case isFalse => cases hh
  rename_i hf
  split at hh
  case h_2 => cases hh
  rename_i s t ha
  split at hh
  case h_2 => cases hh
  rename_i c e fz so hg
  split at hh
  case h_2 => cases hh
  rename_i m hm
  split at hh
  case isFalse => cases hh
  rename_i hs
  cases hh
  exact ⟨hf, rfl, rfl, s, t, c, e, fz, so, m, Array.ext' (by rw [ha]), hg, hm, hs, rfl⟩

theorem idxX_ok {P : Program} {f g : Nat} (hg : g < P.globals.size) (hc : ∀ (s sub : ByteArray) (m : Int) (w : World), s.size < 4294967281 → w.cell? ⟨g, 0, none⟩ = some (.int .i64 m) →
    Calls P f #[.string s, .string sub] w fun e w' => e = .returned (.int .i64 (Lib.index s.data.toList sub.data.toList)) ∧ w' = w) : CallOk P (idxX f g) := by
  intro f' args h v q h' hh
  obtain ⟨rfl, rfl, rfl, s, t, c, e, fz, so, m, rfl, h1, h2, h3, rfl⟩ := idxX_eq hh
  refine ⟨fun _ => rfl, fun E w args' r ra => ?_⟩
  have hargs : args' = #[.string s, .string t] := by
    have := RV.eq_of_plain (n := 13) (v := .tuple #[.string s, .string t]) (v' := .tuple args') (E := E) (by simp [plainN]) (.tuple ra.1 ra.2)
    cases this; rfl
  subst hargs
  obtain ⟨c', fz', g1, g2, g3, _⟩ := r.cells h1 (r.glob g hg)
  have hlt : 0 < c.size := (Array.getElem?_eq_some_iff.1 h2).1
  have h5 := g3 0 _ _ h2 (Array.getElem?_eq_getElem (by omega))
  have h6 : w.cell? ⟨g, 0, none⟩ = some (.int .i64 m) := by
    have h7 : c'[0]? = some (Value.int .i64 m) := by
      rw [Array.getElem?_eq_getElem (by omega)]
      generalize hz : c'[0] = z at h5
      cases h5
      rfl
    simp [World.cell?, g1, h7]
  refine (hc s t m w h3 h6).mono ?_
  rintro e' w' ⟨rfl, rfl⟩
  exact ⟨E, _, rfl, r, .refl E w', .int _ _⟩
theorem idxX_logs {f g : Nat} : CallLogs (idxX f g) := by
  intro f' args h v q h' hh
  obtain ⟨_, rfl, _⟩ := idxX_eq hh
  exact .refl _

/-- a whole run, some functions given -/
abbrev runX (P : Program) (X : CallF) (n : Nat) : FCall := (lv P X n).1
theorem HC.of_runX {P : Program} {X : CallF} (hX : CallOk P X) (hl : CallLogs X) (n : Nat) {f : FuncId} {args : Array Value} {h h' : AH} {p : Bool} {v : Value} {q : Bool} (hh : runX P X n f args h = some (p, v, q, h')) : HC P f args h fun r g => r = resOf p v ∧ g = h' :=
  ((lv_ok P hX hl n).1 _ _ _ _ _ _ _ hh).2
theorem Ex.of_runX {P : Program} {X : CallF} (hX : CallOk P X) (hl : CallLogs X) (n : Nat) {f : FuncId} {args : Array Value} {h h' : AH} {v : Value} {q : Bool} (hh : runX P X n f args h = some (false, v, q, h')) : Ex P f args h v h' := HC.of_runX hX hl n hh

end Go.Ab

/- AbRunK -/
namespace Go.Ab
set_option linter.unusedVariables false

theorem HC.runK {P : Program} {X : CallF} (hX : CallOk P X) (hl : CallLogs X) (n : Nat) {f : FuncId} {args : List Value} {h h' : AH} {v : Value} {q : Bool} {k pk : Value → AH → Prop}
    (hh : runX P X n f args.toArray h = some (false, v, q, h')) (hk : k v h') : HC P f args.toArray h (resK k pk) :=
  (HC.of_runX hX hl n hh).mono fun r g ⟨e1, e2⟩ => by subst e1 e2; exact hk

theorem HC.runP {P : Program} {X : CallF} (hX : CallOk P X) (hl : CallLogs X) (n : Nat) {f : FuncId} {args : List Value} {h : AH} {v : Value} {k pk : Value → AH → Prop}
    (hh : runX P X n f args.toArray h = some (false, v, false, h)) (hk : k v h) : HC P f args.toArray h (resK k pk) := HC.runK hX hl n hh hk

/-- the heap behind a run -/
def heapOf (r : Option (Bool × Value × Bool × AH)) : AH := match r with
  | some (_, _, _, h) => h
  | none => ⟨.leaf, 0, []⟩

end Go.Ab
