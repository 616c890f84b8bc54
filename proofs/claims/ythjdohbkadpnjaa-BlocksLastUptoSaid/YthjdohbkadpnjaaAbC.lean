/-
  ABSTRACT HEAPS: an evaluator of the program's code over a heap of one's own, and that what it says is so.
-/
import Derived.Test.YthjdohbkadpnjaaAbB
import Derived.RangeFuncNested
import Derived.KernelRfl
import Derived.IntWalk
import Derived.Shelf.Sort.Plain
import Derived.Laws.StructEq
/- AbDrawR -/
namespace Go.Ab
set_option linter.unusedVariables false
set_option linter.unusedSimpArgs false

/-- what one operation does, whatever else is known -/
def StepW (P : Program) (ops : Array Oper) (o : Oper) (a : AA) (h : AH) (v : Value) (h' : AH) : Prop :=
  ∀ (ro : Option Nat) (E : Ren) (w : World) (y : Act) (K : Act → World → Prop) (W : Exit → Act → World → Prop), RW P E h w → RT E a y.tmps →
    (∀ E' w' v', RW P E' h' w' → Ext E w E' w' → RV E' v v' → K (y.put o.dst v') w') →
    if Region.wanted o (Go.yielded ops y.tmps) then o.wpR ro P y w K W else K (y.put o.dst undef) w

/-- the run in the order of the text -/
structure TraceW (P : Program) (ops : Array Oper) (rs : List Rec) (a : AA) (h h₂ : AH) : Prop where
  len : rs.length = ops.size
  op : ∀ (i : Nat) r, rs[i]? = some r → ops[i]? = some r.o
  head : ∀ r, rs[0]? = some r → r.h = h
  chain : ∀ (i : Nat) r q, rs[i]? = some r → rs[i + 1]? = some q → q.h = r.h'
  last : (rs = [] → h₂ = h) ∧ ∀ r, rs[rs.length - 1]? = some r → h₂ = r.h'
  known : ∀ (i : Nat) r, rs[i]? = some r → r.a.n = a.n ∧ ∀ t v, r.a.get t = some v → valT rs a t (lastB (writesAt rs a.n t) i) = some v ∧ t ∈ readsOf ops r.o
  step : ∀ (i : Nat) r, rs[i]? = some r → StepW P ops r.o r.a r.h r.v r.h'
  quiet : ∀ (i : Nat) r, rs[i]? = some r → r.q = false → r.h' = r.h

structure OrderedW (P : Program) (ops : Array Oper) (rs : List Rec) (n : Nat) (h : AH) (pl : Nat → List Nat) : Prop where
  ahead : ∀ m i l, Good m ops (i :: l) → ∀ j ∈ pl i, j ∈ l
  tm : ∀ i k x y d, rs[i]? = some x → rs[k]? = some y → i ≠ k → y.o.dst = some d → d < n → (d ∈ readsOf ops x.o ∨ x.o.dst = some d) → (k < i → k ∈ pl i) ∧ (i < k → i ∈ pl k)
  ld : ∀ i k, loudAt rs i = true → loudAt rs k = true → k < i → k ∈ pl i
  rd : ∀ i r, rs[i]? = some r → r.q = false → ∀ q : Option Nat, (∀ l, q = some l → loudAt rs l = true) →
    (∀ p ∈ pl i, loudAt rs p = true → ∃ l, q = some l ∧ p ≤ l) → (∀ l', loudAt rs l' = true → (∃ l, q = some l ∧ l' ≤ l) → i ∉ pl l') →
    StepW P ops r.o r.a (heapT rs h q) r.v (heapT rs h q)

section
variable {P : Program} {ops : Array Oper} {a a₂ : AA} {h h₂ : AH} {rs : List Rec}

theorem TraceW.heap (ht : TraceW P ops rs a h h₂) : ∀ (i : Nat) r, rs[i]? = some r → r.h = heapT rs h (lastB (loudAt rs) i) := by
  intro i
  induction i with
  | zero => intro r hr; rw [ht.head r hr]; rfl
  | succ i ih =>
    intro r hr
    have hlt : i < rs.length := by have := (List.getElem?_eq_some_iff.1 hr).1; omega
    have hp : rs[i]? = some rs[i] := List.getElem?_eq_getElem hlt
    rw [ht.chain i rs[i] r hp hr]
    simp only [lastB, loudAt, hp]
    cases hl : rs[i].q with
    | true => simp [heapT, hp]
    | false => rw [ht.quiet i _ hp hl, ih _ hp]; rfl

theorem TraceW.heapEnd (ht : TraceW P ops rs a h h₂) : h₂ = heapT rs h (lastB (loudAt rs) ops.size) := by
  cases hn : ops.size with
  | zero =>
    have : rs = [] := List.eq_nil_of_length_eq_zero (by rw [ht.len, hn])
    rw [ht.last.1 this]; rfl
  | succ i =>
    have hlt : i < rs.length := by rw [ht.len, hn]; omega
    have hp : rs[i]? = some rs[i] := List.getElem?_eq_getElem hlt
    have hl := ht.last.2 rs[i] (by rw [ht.len, hn]; exact hp)
    rw [hl]
    simp only [lastB, loudAt, hp]
    cases hq : rs[i].q with
    | true => simp [heapT, hp]
    | false => rw [ht.quiet i _ hp hq, ht.heap i _ hp]; rfl

section
variable {pl : Nat → List Nat} (ho : OrderedW P ops rs a.n h pl)
include ho

theorem closedW {m : Region.Mode} {acc : List Nat} (hg : Good m ops acc) {k : Nat} (hk : k ∈ acc) : ∀ j ∈ pl k, j ∈ acc := by
  intro j hj
  obtain ⟨l1, l2, rfl⟩ := List.append_of_mem hk
  have := ho.ahead m k l2 hg.drop j hj
  exact List.mem_append_right _ (List.mem_cons_of_mem _ this)

theorem last_hereW {m : Region.Mode} {i : Nat} {acc : List Nat} (hg : Good m ops (i :: acc)) (hi : i < ops.size) {p : Nat → Bool}
    (h1 : ∀ k, k < i → p k = true → k ∈ pl i) (h2 : ∀ k, i < k → p k = true → i ∈ pl k) : lastB (fun k => p k && decide (k ∈ acc)) ops.size = lastB p i := by
  have hup : ∀ k, i ≤ k → k < ops.size → (p k && decide (k ∈ acc)) = false := by
    intro k hk _
    rw [Bool.and_eq_false_iff]
    by_cases e : k = i
    · subst e; right; simpa using hg.2.1
    · cases hp : p k with
      | false => exact .inl rfl
      | true =>
        right
        have := h2 k (by omega) hp
        simp only [decide_eq_false_iff_not]
        exact fun hc => hg.2.1 (closedW ho hg.1 hc i this)
  rw [lastB_cut (Nat.le_of_lt hi) hup]
  refine lastB_congr fun k hk => ?_
  cases hp : p k with
  | false => rfl
  | true => simpa using ho.ahead m i acc hg k (h1 k hk hp)

theorem last_putW {m : Region.Mode} {i : Nat} {acc : List Nat} (hg : Good m ops (i :: acc)) (hi : i < ops.size) {p : Nat → Bool} (hp : p i = true)
    (h2 : ∀ k, i < k → p k = true → i ∈ pl k) : lastB (fun k => p k && decide (k ∈ i :: acc)) ops.size = some i := by
  refine lastB_at hi (by simp [hp]) fun k hk _ => ?_
  rw [Bool.and_eq_false_iff]
  cases hpk : p k with
  | false => exact .inl rfl
  | true =>
    right
    have := h2 k hk hpk
    simp only [decide_eq_false_iff_not, List.mem_cons, not_or]
    exact ⟨by omega, fun hc => hg.2.1 (closedW ho hg.1 hc i this)⟩

end

theorem draw_wpW {ro : Option Nat} {D : List Deferred} (ht : TraceW P ops rs a h h₂) {pl : Nat → List Nat} (ho : OrderedW P ops rs a.n h pl) (hn₂ : a₂.n = a.n) (hv₂ : ∀ t v, a₂.get t = some v → valT rs a t (lastB (writesAt rs a.n t) ops.size) = some v)
    {E : Ren} {w : World} {x : Act} {Q : Exit → Act → World → Prop} (r0 : RW P E h w) (rt0 : RT E a x.tmps) (hd0 : x.defers = D)
    (hQ : ∀ E' w' y, RW P E' h₂ w' → Ext E w E' w' → RT E' a₂ y.tmps → y.defers = D → Q .normal y w') {m : Region.Mode} {l : List Nat} (hg : Good m ops l) (hl : l.length = ops.size) :
    wpOpsR ro P ops Q l.reverse x w := by
  have go : ∀ (rest acc : List Nat), Good m ops (rest.reverse ++ acc) → (rest.reverse ++ acc).length = ops.size → ∀ (E' : Ren) (w' : World) (y : Act) (aS : AA),
      RW P E' (heapT rs h (lastB (fun k => loudAt rs k && decide (k ∈ acc)) ops.size)) w' → Ext E w E' w' → RT E' aS y.tmps → aS.n = a.n →
      (∀ t, aS.get t = valT rs a t (lastB (fun k => writesAt rs a.n t k && decide (k ∈ acc)) ops.size)) → y.defers = D → wpOpsR ro P ops Q rest y w' := by
    intro rest
    induction rest with
    | nil =>
      intro acc hga hla E' w' y aS r xt rt hn hv hd
      simp only [List.reverse_nil, List.nil_append] at hga hla
      have hall : ∀ k, k < ops.size → k ∈ acc := by
        intro k hk
        apply Classical.byContradiction
        intro hc
        have hsub : ∀ j ∈ k :: acc, j ∈ List.range ops.size := by
          intro j hj
          cases hj with
          | head => exact List.mem_range.2 hk
          | tail _ hj => exact List.mem_range.2 (hga.lt j hj)
        have := (List.nodup_cons.2 ⟨hc, hga.nodup⟩).length_le_of_subset hsub
        rw [List.length_range, List.length_cons] at this
        omega
      have hcg : ∀ p : Nat → Bool, lastB (fun k => p k && decide (k ∈ acc)) ops.size = lastB p ops.size := fun p => lastB_congr fun k hk => by simp [hall k hk]
      simp only [wpOpsR]
      refine hQ E' w' y ?_ xt (rt.less (by rw [hn₂, hn]) fun t v hvt => ?_) hd
      · rw [ht.heapEnd, ← hcg]; exact r
      · rw [hv t, hcg]; exact hv₂ t v hvt
    | cons i rest ih =>
      intro acc hga hla E' w' y aS r xt rt hn hv hd
      have hga' : Good m ops (rest.reverse ++ (i :: acc)) := by simpa using hga
      have hla' : (rest.reverse ++ (i :: acc)).length = ops.size := by simpa using hla
      have hgi : Good m ops (i :: acc) := hga'.drop
      obtain ⟨o, hoi, _⟩ := hgi.2.2
      have hi : i < ops.size := (Array.getElem?_eq_some_iff.1 hoi).1
      have hri : rs[i]? = some (rs[i]'(by rw [ht.len]; omega)) := List.getElem?_eq_getElem _
      generalize hr : rs[i]'(by rw [ht.len]; omega) = ri at hri
      have hro : ri.o = o := by
        have := ht.op i ri hri
        rw [hoi] at this
        exact (Option.some.inj this).symm
      obtain ⟨g1, g2⟩ := ht.known i ri hri
      have hreads : ∀ t v, ri.a.get t = some v → aS.get t = some v := by
        intro t v htv
        obtain ⟨k1, k2⟩ := g2 t v htv
        rw [hv t, ← k1]
        congr 1
        refine last_hereW ho hgi hi (fun k hk hp => ?_) (fun k hk hp => ?_)
        · unfold writesAt at hp
          split at hp
          · rename_i yk hyk
            simp only [Bool.and_eq_true, beq_iff_eq, decide_eq_true_eq] at hp
            exact (ho.tm i k ri yk t hri hyk (by omega) hp.1 hp.2 (.inl k2)).1 hk
          · cases hp
        · unfold writesAt at hp
          split at hp
          · rename_i yk hyk
            simp only [Bool.and_eq_true, beq_iff_eq, decide_eq_true_eq] at hp
            exact (ho.tm i k ri yk t hri hyk (by omega) hp.1 hp.2 (.inl k2)).2 hk
          · cases hp
      have rti : RT E' ri.a y.tmps := rt.less (by rw [g1, hn]) hreads
      have hli : loudAt rs i = ri.q := by simp [loudAt, hri]
      have hwi : ∀ t, writesAt rs a.n t i = (ri.o.dst == some t && decide (t < a.n)) := fun t => by simp [writesAt, hri]
      have hloudHere : ri.q = true → heapT rs h (lastB (fun k => loudAt rs k && decide (k ∈ acc)) ops.size) = ri.h := by
        intro hl
        rw [ht.heap i ri hri, last_hereW ho hgi hi (fun k hk hp => ho.ld i k (by rw [hli]; exact hl) hp hk) (fun k hk hp => ho.ld k i hp (by rw [hli]; exact hl) hk)]
      have hloudPut : ri.q = true → heapT rs h (lastB (fun k => loudAt rs k && decide (k ∈ i :: acc)) ops.size) = ri.h' := by
        intro hl
        rw [last_putW ho hgi hi (by rw [hli]; exact hl) (fun k hk hp => ho.ld k i hp (by rw [hli]; exact hl) hk)]
        simp [heapT, hri]
      have hquietPut : ri.q = false → heapT rs h (lastB (fun k => loudAt rs k && decide (k ∈ i :: acc)) ops.size) = heapT rs h (lastB (fun k => loudAt rs k && decide (k ∈ acc)) ops.size) := by
        intro hl
        rw [last_skip (by rw [hli]; exact hl)]
      have hvals : ∀ t, (aS.put ri.o.dst ri.v).get t = valT rs a t (lastB (fun k => writesAt rs a.n t k && decide (k ∈ i :: acc)) ops.size) := by
        intro t
        by_cases hw : writesAt rs a.n t i = true
        · have hw' := hw
          rw [hwi] at hw'
          simp only [Bool.and_eq_true, beq_iff_eq, decide_eq_true_eq] at hw'
          rw [last_putW ho hgi hi hw (fun k hk hp => by
            unfold writesAt at hp
            split at hp
            · rename_i yk hyk
              simp only [Bool.and_eq_true, beq_iff_eq, decide_eq_true_eq] at hp
              exact (ho.tm i k ri yk t hri hyk (by omega) hp.1 hp.2 (.inr hw'.1)).2 hk
            · cases hp)]
          rw [hw'.1, AA.get_put, hn, if_pos ⟨rfl, hw'.2⟩]
          simp [valT, hri]
        · rw [last_skip (by simpa using hw), ← hv t]
          rw [hwi] at hw
          cases hdst : ri.o.dst with
          | none => rfl
          | some d =>
            rw [AA.get_put, hn, if_neg]
            rintro ⟨rfl, hlt⟩
            exact hw (by simp [hdst, hlt])
      have hnn : ∀ v, (aS.put ri.o.dst v).n = a.n := fun v => by rw [put_n, hn]
      have hput : ∀ (d : Option Tmp) (v : Value), (y.put d v).defers = D := fun d v => by cases d <;> exact hd
      simp only [wpOpsR, hoi]
      rw [← hro]
      cases hq : ri.q with
      | true =>
        have hst := ht.step i ri hri
        rw [← hloudHere hq] at hst
        exact hst ro E' w' y _ _ r rti fun E2 w2 v2 p1 p2 p3 => ih (i :: acc) hga' hla' E2 w2 _ _ (by rw [hloudPut hq]; exact p1) (xt.trans p2) ((rt.mono p2.le).put ri.o.dst p3) (hnn _) hvals (hput _ _)
      | false =>
        have hrd := ho.rd i ri hri hq (lastB (fun k => loudAt rs k && decide (k ∈ acc)) ops.size)
          (fun l hl' => by have := (lastB_some hl').2.1; simp only [Bool.and_eq_true] at this; exact this.1)
          (fun p hp hlp => by
            have hpa := ho.ahead m i acc hgi p hp
            have hps := hgi.1.lt p hpa
            cases hlast : lastB (fun k => loudAt rs k && decide (k ∈ acc)) ops.size with
            | none =>
              have := lastB_none hlast p hps
              simp [hlp, hpa] at this
            | some l => exact ⟨l, rfl, (lastB_some hlast).2.2 p hps (by simp [hlp, hpa])⟩)
          (by
            rintro l' hl' ⟨l, hlast, hle⟩ hmem
            obtain ⟨z1, z2, z3⟩ := lastB_some hlast
            simp only [Bool.and_eq_true, decide_eq_true_eq] at z2
            have hla : l' ∈ acc := by
              by_cases e : l' = l
              · rw [e]; exact z2.2
              · exact closedW ho hgi.1 z2.2 l' (ho.ld l l' z2.1 hl' (by omega))
            exact hgi.2.1 (closedW ho hgi.1 hla i hmem))
        exact hrd ro E' w' y _ _ r rti fun E2 w2 v2 p1 p2 p3 => ih (i :: acc) hga' hla' E2 w2 _ _ (by rw [hquietPut hq]; exact p1) (xt.trans p2) ((rt.mono p2.le).put ri.o.dst p3) (hnn _) hvals (hput _ _)
  have hnone : ∀ p : Nat → Bool, lastB (fun k => p k && decide (k ∈ ([] : List Nat))) ops.size = none := by
    intro p
    have : ∀ n, lastB (fun k => p k && decide (k ∈ ([] : List Nat))) n = none := by
      intro n
      induction n with
      | zero => rfl
      | succ n ih => simp only [lastB, List.not_mem_nil, decide_false, Bool.and_false, Bool.false_eq_true, if_false]; simpa using ih
    exact this _
  refine go l.reverse [] (by simpa using hg) (by simpa using hl) E w x a (by rw [hnone]; exact r0) (.refl E w) rt0 rfl (fun t => by rw [hnone]; rfl) hd0

end

end Go.Ab

/- AbDrawX -/
namespace Go.Ab
set_option linter.unusedVariables false
set_option linter.unusedSimpArgs false

/-- a call that returns just one thing -/
def exP (P : Program) (f : FuncId) (args : Array Value) (h : AH) (k : Value → AH → Prop) : Prop := ∃ v h', Ex P f args h v h' ∧ k v h'

def enterX (P : Program) (f : FuncId) (args : List Value) (h : AH) (k : Value → AH → Prop) : Prop :=
  match P.funcs[f]? with
  | some fn => if fn.name == "runtime.NumGoroutine" then False else if fn.body.isNone then bq (externV P f args) fun v => k v h else exP P f args.toArray h k
  | none => False

def callX (P : Program) (fv : Value) (args : List Value) (h : AH) (k : Value → AH → Prop) : Prop := match fv with
  | .func (.func g) first captured => enterX P g (first.toList ++ args ++ captured.toList) h k
  | _ => False

def invokeX (P : Program) (rv : Value) (name : String) (args : List Value) (h : AH) (k : Value → AH → Prop) : Prop := match rv with
  | .iface t v => match methodOf P t v name with
    | some (g, r) => enterX P g (r :: args) h k
    | none => False
  | _ => False

def wpOpX (P : Program) (ρ : Operand → Option Value) (o : Oper) (h : AH) (k : Value → AH → Prop) : Prop :=
  match o.op with
  | .call c => match c.callee with
    | .value f => oq (listOf ρ c.args.toList) fun args => oq (ρ f) fun fv => callX P fv args h k
    | .invoke recv name => oq (listOf ρ c.args.toList) fun args => oq (ρ recv) fun rv => invokeX P rv name args h k
    | .builtin _ => wpCall P ρ c o.type h k fun _ _ => False
  | .panic _ => False
  | .next .. => False
  | _ => wpOp P ρ o h k fun _ _ => False

def outX (P : Program) (out : Out) (k : Value → AH → Prop) : Prop := match out with
  | .val v h => k v h
  | .unit h => k undef h
  | .enter f args h => exP P f args h k

section
variable {P : Program} {ρ : Operand → Option Value} {h : AH} {k : Value → AH → Prop}

theorem enterX_abs {f : FuncId} {args : List Value} (hh : enterX P f args h k) : ∃ out, enterOf P f args h = some out ∧ outX P out k := by
  unfold enterX at hh
  unfold enterOf
  cases hf : P.funcs[f]? with
  | none => rw [hf] at hh; cases hh
  | some fn =>
    rw [hf] at hh
    simp only at hh ⊢
    split at hh
    · cases hh
    · rename_i hn
      rw [if_neg hn]
      split at hh
      · rename_i hb
        rw [if_pos hb]
        obtain ⟨v, e, hk⟩ := bq_eq hh
        unfold externV at e
        split at e
        · rename_i hp
          rw [if_pos hp]
          split at e
          · rename_i u hu
            split at e
            · rename_i hpu
              cases e
              exact ⟨.val v h, by simp only [hu, hpu, if_true], hk⟩
            · cases e
          · cases e
        · cases e
      · rename_i hb
        rw [if_neg hb]
        exact ⟨_, rfl, hh⟩

theorem outK_X {out : Out} (hne : ∀ f args g, out ≠ .enter f args g) (hh : outK P out k fun _ _ => False) : outX P out k := by
  cases out with
  | val v h => exact hh
  | unit h => exact hh
  | enter f args g => exact absurd rfl (hne f args g)

theorem wpOpX_abs {o : Oper} (hh : wpOpX P ρ o h k) : ∃ out, absOp P ρ o h = some out ∧ outX P out k := by
  unfold wpOpX at hh
  have plainCase : (∀ x, o.op ≠ .panic x) → (∀ it s, o.op ≠ .next it s) → (∀ c, o.op ≠ .call c) → wpOp P ρ o h k (fun _ _ => False) → ∃ out, absOp P ρ o h = some out ∧ outX P out k := by
    intro h1 h0 h2 hw
    obtain ⟨out, hop, hk⟩ := wpOp_abs h1 h0 (fun c f l e => absurd e (h2 c)) hw
    refine ⟨out, hop, outK_X ?_ hk⟩
    rintro f args g rfl
    have noVal : ∀ {v : Option Value}, valH h v = some (.enter f args g) → False := fun e => by obtain ⟨u, _, e⟩ := valH_eq e; cases e
    have noValP : ∀ {v : Option (Value × AH)}, valP v = some (.enter f args g) → False := fun e => by obtain ⟨u, g, _, e⟩ := valP_eq e; cases e
    unfold absOp at hop
    repeat' split at hop
    all_goals first
      | (cases hop; done)
      | (exact noVal hop)
      | (exact noValP hop)
      | (rename_i ho; exact h2 _ ho)
      | skip
    · unfold absBin at hop
      repeat' split at hop
      all_goals first
        | (cases hop; done)
        | (exact noVal hop)
    · unfold absConvert at hop
      repeat' split at hop
      all_goals first
        | (cases hop; done)
        | (exact noVal hop)
  cases ho : o.op with
  | call c =>
    rw [ho] at hh
    simp only at hh
    unfold absOp
    rw [ho]
    simp only
    cases hc : c.callee with
    | builtin b =>
      rw [hc] at hh
      obtain ⟨out, hop, hk⟩ := wpCall_abs (fun f l e => by rw [hc] at e; cases e) hh
      refine ⟨out, hop, outK_X ?_ hk⟩
      rintro f args g rfl
      have noVal : ∀ {v : Option Value}, valH h v = some (.enter f args g) → False := fun e => by obtain ⟨u, _, e⟩ := valH_eq e; cases e
      have noValP : ∀ {v : Option (Value × AH)}, valP v = some (.enter f args g) → False := fun e => by obtain ⟨u, g, _, e⟩ := valP_eq e; cases e
      unfold absCall at hop
      rw [hc] at hop
      cases b <;> (simp only at hop; repeat' split at hop) <;> first
        | (cases hop; done)
        | (exact noVal hop)
        | (exact noValP hop)
    | value f =>
      rw [hc] at hh
      obtain ⟨args, e1, hh⟩ := oq_eq hh
      obtain ⟨fv, e2, hh⟩ := oq_eq hh
      unfold absCall
      simp only [e1, hc, e2]
      unfold callX at hh
      split at hh
      · exact enterX_abs hh
      · cases hh
    | invoke recv name =>
      rw [hc] at hh
      obtain ⟨args, e1, hh⟩ := oq_eq hh
      obtain ⟨rv, e2, hh⟩ := oq_eq hh
      unfold absCall
      simp only [e1, hc, e2]
      unfold invokeX at hh
      split at hh
      · rename_i t v
        simp only
        cases hm : methodOf P t v name with
        | none => rw [hm] at hh; cases hh
        | some gr =>
          obtain ⟨g, r⟩ := gr
          rw [hm] at hh
          exact enterX_abs hh
      · cases hh
  | panic x => rw [ho] at hh; cases hh
  | next it s => rw [ho] at hh; cases hh
  | _ => exact plainCase (fun x e => by rw [ho] at e; cases e) (fun it s e => by rw [ho] at e; cases e) (fun c e => by rw [ho] at e; cases e) (by rw [ho] at hh; exact hh)

end

/-- the run in the order of the text, with calls that return just one thing -/
def wpX (P : Program) (ops : Array Oper) : List Oper → AA → AH → (AA → AH → Prop) → Prop
  | [], a, h, Q => Q a h
  | o :: l, a, h, Q => match o.guard with
    | none => wpOpX P (a.opnd P) o h fun v h' => wpX P ops l (a.put o.dst v) h' Q
    | some (j, want) => match (ops[j]?).bind (·.dst) with
      | some d => if d < a.n then oq (a.get d) fun x => guardQ x want h (fun k => wpOpX P (a.opnd P) o h k) fun v h' => wpX P ops l (a.put o.dst v) h' Q
        else wpX P ops l (a.put o.dst undef) h Q
      | none => wpX P ops l (a.put o.dst undef) h Q

theorem clo_lt {ops : Array Oper} (hb : backs ops = true) : ∀ i k, k ∈ (clo ops.toList []).getD i [] → k < i := by
  have key : ∀ (l : List Oper) (acc : List (List Nat)), ops.toList.drop acc.length = l → (∀ i k, k ∈ acc.getD i [] → k < i) → ∀ i k, k ∈ (clo l acc).getD i [] → k < i := by
    intro l
    induction l with
    | nil => intro acc _ h; exact h
    | cons o l ih =>
      intro acc hd h
      have ho : ops[acc.length]? = some o := by
        have : ops.toList[acc.length]? = some o := by rw [← List.head?_drop, hd]; rfl
        simpa using this
      refine ih _ ?_ ?_
      · rw [List.length_append, List.length_singleton, ← List.drop_drop, hd]; rfl
      · intro i k hk
        by_cases e : i < acc.length
        · rw [List.getD_eq_getElem?_getD, List.getElem?_append_left e, ← List.getD_eq_getElem?_getD] at hk
          exact h i k hk
        · by_cases e2 : i = acc.length
          · subst e2
            rw [List.getD_eq_getElem?_getD, List.getElem?_append_right (Nat.le_refl _)] at hk
            simp only [Nat.sub_self, List.getElem?_cons_zero, Option.getD_some, List.mem_flatMap, List.mem_filter] at hk
            obtain ⟨ed, ⟨he, hst⟩, hk⟩ := hk
            have hlt := backs_lt hb ho ed (by simpa using he) hst
            cases hk with
            | head => exact hlt
            | tail _ hk => have := h ed.on k hk; omega
          · rw [List.getD_eq_getElem?_getD, List.getElem?_eq_none (by simp; omega)] at hk
            cases hk
  exact key ops.toList [] (by simp) (fun i k hk => by simp at hk)

/-- what comes to the same on every heap -/
def freeO (o : Oper) : Bool := free o && match o.op with | .call _ => false | _ => true

/-- what one step comes to -/
structure Step1 (P : Program) (ops : Array Oper) (o : Oper) (a : AA) (h : AH) (v : Value) (q : Bool) (h' : AH) : Prop where
  quiet : q = false → h' = h
  loud : q = true → loud P o = true
  step : ∀ b : AA, b.n = a.n → (∀ t ∈ readsOf ops o, b.get t = a.get t) → StepW P ops o b h v h'
  free : freeO o = true → ∀ (g : AH) (b : AA), b.n = a.n → (∀ t ∈ readsOf ops o, b.get t = a.get t) → StepW P ops o b g v g

/-- one operation, with what is known of its guard -/
def wpG (P : Program) (ops : Array Oper) (o : Oper) (a : AA) (h : AH) (k : Value → AH → Prop) : Prop := match o.guard with
  | none => wpOpX P (a.opnd P) o h k
  | some (j, want) => match (ops[j]?).bind (·.dst) with
    | some d => if d < a.n then oq (a.get d) fun x => guardQ x want h (fun k => wpOpX P (a.opnd P) o h k) k
      else k undef h
    | none => k undef h

theorem stepG {P : Program} {ops : Array Oper} {o : Oper} {a : AA} {h : AH} {kk : Value → AH → Prop} (hh : wpG P ops o a h kk) :
    ∃ v q h', Step1 P ops o a h v q h' ∧ kk v h' := by
  have run : ∀ (k : Value → AH → Prop), wpOpX P (a.opnd P) o h k → (∀ b : AA, b.n = a.n → (∀ t ∈ readsOf ops o, b.get t = a.get t) → ∀ E (y : Act), RT E b y.tmps → Region.wanted o (Go.yielded ops y.tmps) = true) →
      ∃ v q h', Step1 P ops o a h v q h' ∧ k v h' := by
    intro k hw hwant
    obtain ⟨out, hop, hk⟩ := wpOpX_abs hw
    have hopb : ∀ b : AA, (∀ t ∈ readsOf ops o, b.get t = a.get t) → absOp P (b.opnd P) o h = some out := by
      intro b hb
      rw [← hop]
      refine absOp_congr fun x hx => ?_
      cases x with
      | tmp t => exact hb t (List.mem_append_left _ (List.mem_filterMap.2 ⟨.tmp t, hx, rfl⟩))
      | _ => rfl
    have stepVal : ∀ (g g' : AH) (b : AA) (v : Value), b.n = a.n → (∀ t ∈ readsOf ops o, b.get t = a.get t) → absOp P (b.opnd P) o g = some (.val v g') → StepW P ops o b g v g' := by
      intro g g' b v hn hb hop ro E w y K W r rt hK
      rw [if_pos (hwant b hn hb E y rt)]
      obtain ⟨E', v', w', h1, h2, h3, h4⟩ := absOp_ok r (rt.opnd r) hop
      exact wpR_value (abs_nodefer hop) h1 (hK E' w' v' h2 h3 h4)
    have noFree : (∀ v, out ≠ .val v h) → freeO o = true → False := by
      intro hne hf
      unfold freeO at hf
      rw [Bool.and_eq_true] at hf
      obtain ⟨u, hu⟩ := quiet_val (free_loud hf.1) hop
      exact hne u hu
    cases out with
    | val v h' =>
      refine ⟨v, Ab.loud P o, h', ⟨fun hq => ?_, fun hq => hq, fun b hn hb => stepVal h h' b v hn hb (hopb b hb), fun hf g b hn hb => ?_⟩, hk⟩
      · obtain ⟨u, hu⟩ := quiet_val hq hop; cases hu; rfl
      · unfold freeO at hf
        rw [Bool.and_eq_true] at hf
        obtain ⟨u, hu⟩ := quiet_val (free_loud hf.1) hop
        have hob := hopb b hb
        cases hu
        exact stepVal g g b v hn hb (free_val hf.1 hob)
    | unit h' =>
      refine ⟨undef, true, h', ⟨(fun hq => by cases hq), fun _ => ?_, fun b hn hb ro E w y K W r rt hK => ?_, fun hf => (noFree (fun v e => by cases e) hf).elim⟩, hk⟩
      · cases hl : Ab.loud P o with
        | true => rfl
        | false => obtain ⟨u, hu⟩ := quiet_val hl hop; cases hu
      · rw [if_pos (hwant b hn hb E y rt)]
        obtain ⟨E', w', h1, h2, h3⟩ := absOp_ok r (rt.opnd r) (hopb b hb)
        exact wpR_skip (abs_nodefer hop) h1 (hK E' w' undef h2 h3 rv_undef)
    | enter f args h1 =>
      obtain ⟨v, h', hex, hk⟩ := hk
      refine ⟨v, true, h', ⟨(fun hq => by cases hq), fun _ => ?_, fun b hn hb ro E w y K W r rt hK => ?_, fun hf => (noFree (fun v e => by cases e) hf).elim⟩, hk⟩
      · cases hl : Ab.loud P o with
        | true => rfl
        | false => obtain ⟨u, hu⟩ := quiet_val hl hop; cases hu
      · rw [if_pos (hwant b hn hb E y rt)]
        obtain ⟨E', args', w', g1, g2, g3, g4⟩ := absOp_ok r (rt.opnd r) (hopb b hb)
        refine wpR_enter (abs_nodefer hop) g1 ((hex E' w' args' g2 g4).mono ?_)
        rintro e w'' ⟨E'', res, h'', q1, q2, q3, rfl, rfl⟩
        cases e with
        | returned v' => exact hK E'' w'' v' q2 (g3.trans q3) q1
        | _ => cases q1
  have skip : (∀ b : AA, b.n = a.n → (∀ t ∈ readsOf ops o, b.get t = a.get t) → ∀ E (y : Act), RT E b y.tmps → Region.wanted o (Go.yielded ops y.tmps) = false) → Step1 P ops o a h undef false h :=
    fun hw => ⟨fun _ => rfl, (fun hq => by cases hq), fun b hn hb ro E w y K W r rt hK => by rw [if_neg (by rw [hw b hn hb E y rt]; simp)]; exact hK E w undef r (.refl E w) rv_undef,
      fun _ g b hn hb ro E w y K W r rt hK => by rw [if_neg (by rw [hw b hn hb E y rt]; simp)]; exact hK E w undef r (.refl E w) rv_undef⟩
  unfold wpG at hh
  split at hh
  · rename_i hg
    obtain ⟨v, q, h', s, hk⟩ := run _ hh fun b _ _ E y _ => by unfold Region.wanted; rw [hg]
    exact ⟨v, q, h', s, hk⟩
  · rename_i j want hg
    have hrd : ∀ d, (ops[j]?).bind (·.dst) = some d → d ∈ readsOf ops o := fun d hd => by simp [readsOf, hg, hd]
    split at hh
    · rename_i d hd
      split at hh
      · rename_i hlt
        obtain ⟨x, hx, hh⟩ := oq_eq hh
        have wn : ∀ b : AA, b.n = a.n → (∀ t ∈ readsOf ops o, b.get t = a.get t) → ∀ E (y : Act), RT E b y.tmps → Region.wanted o (Go.yielded ops y.tmps) = ((match x with | .bool c => some c | _ => none) == some want) := by
          intro b hn hb E y rt
          have hbd : b.get d = some x := by rw [hb d (hrd d hd)]; exact hx
          have hkn : b.knows ops o = true := by
            unfold AA.knows
            rw [hg]
            simp only [hd, hn, hlt, if_true, hbd, Option.isSome_some]
          rw [← rt.yielded ops hkn]
          unfold Region.wanted AA.yielded
          rw [hg]
          simp only [hd, hn, hlt, if_true, hbd]
          cases x <;> rfl
        rw [guardQ_iff] at hh
        unfold guardI at hh
        cases x with
        | bool c =>
          simp only at hh
          split at hh
          · rename_i e
            obtain ⟨v, q, h', s, hk⟩ := run _ hh fun b hn hb E y rt => by rw [wn b hn hb E y rt]; simp [e]
            exact ⟨v, q, h', s, hk⟩
          · rename_i e
            exact ⟨undef, false, h, skip fun b hn hb E y rt => by rw [wn b hn hb E y rt]; simp [e], hh⟩
        | _ => exact ⟨undef, false, h, skip fun b hn hb E y rt => by rw [wn b hn hb E y rt]; rfl, hh⟩
      · rename_i hlt
        refine ⟨undef, false, h, skip fun b hn hb E y rt => ?_, hh⟩
        have hkn : b.knows ops o = true := by
          unfold AA.knows
          rw [hg]
          simp only [hd, hn, hlt, if_false]
        rw [← rt.yielded ops hkn]
        unfold Region.wanted AA.yielded
        rw [hg]
        simp only [hd, hn, hlt, if_false]
        rfl
    · rename_i hd
      refine ⟨undef, false, h, skip fun b hn hb E y rt => ?_, hh⟩
      have hkn : b.knows ops o = true := by
        unfold AA.knows
        rw [hg]
        simp only [hd]
      rw [← rt.yielded ops hkn]
      unfold Region.wanted AA.yielded
      rw [hg]
      simp only [hd]
      rfl


theorem wpX_cons {P : Program} {ops : Array Oper} {o : Oper} {l : List Oper} {a : AA} {h : AH} {Q : AA → AH → Prop} : wpX P ops (o :: l) a h Q = wpG P ops o a h fun v h' => wpX P ops l (a.put o.dst v) h' Q := rfl

theorem step1 {P : Program} {ops : Array Oper} {o : Oper} {l : List Oper} {a : AA} {h : AH} {Q : AA → AH → Prop} (hh : wpX P ops (o :: l) a h Q) :
    ∃ v q h', Step1 P ops o a h v q h' ∧ wpX P ops l (a.put o.dst v) h' Q := stepG (wpX_cons ▸ hh)

/-- the run in the order of the text, step by step -/
inductive Run1 (P : Program) (ops : Array Oper) : List Oper → AA → AH → List Rec → AA → AH → Prop
  | nil (a : AA) (h : AH) : Run1 P ops [] a h [] a h
  | cons {o : Oper} {l : List Oper} {a a₂ : AA} {h h' h₂ : AH} {v : Value} {q : Bool} {rs : List Rec} (s : Step1 P ops o a h v q h') (t : Run1 P ops l (a.put o.dst v) h' rs a₂ h₂) :
      Run1 P ops (o :: l) a h (⟨o, a, h, v, q, h'⟩ :: rs) a₂ h₂

theorem wpX_run {P : Program} {ops : Array Oper} {Q : AA → AH → Prop} : ∀ {l : List Oper} {a : AA} {h : AH}, wpX P ops l a h Q → ∃ rs a₂ h₂, Run1 P ops l a h rs a₂ h₂ ∧ Q a₂ h₂ := by
  intro l
  induction l with
  | nil => intro a h hh; exact ⟨[], a, h, .nil a h, hh⟩
  | cons o l ih =>
    intro a h hh
    obtain ⟨v, q, h', s, hh⟩ := step1 hh
    obtain ⟨rs, a₂, h₂, t, hq⟩ := ih hh
    exact ⟨_, a₂, h₂, .cons s t, hq⟩

section
variable {P : Program} {ops : Array Oper}

theorem Run1.get {l : List Oper} {a a₂ : AA} {h h₂ : AH} {rs : List Rec} (ht : Run1 P ops l a h rs a₂ h₂) :
    rs.length = l.length ∧ (∀ (i : Nat) r, rs[i]? = some r → l[i]? = some r.o ∧ Step1 P ops r.o r.a r.h r.v r.q r.h') ∧
    (∀ r, rs[0]? = some r → r.a = a ∧ r.h = h) ∧ (∀ (i : Nat) r q, rs[i]? = some r → rs[i + 1]? = some q → q.a = r.a.put r.o.dst r.v ∧ q.h = r.h') ∧
    (rs = [] → a₂ = a ∧ h₂ = h) ∧ (∀ r, rs[rs.length - 1]? = some r → a₂ = r.a.put r.o.dst r.v ∧ h₂ = r.h') := by
  induction ht with
  | nil a h => simp
  | @cons o l a a₂ h h' h₂ v q rs s t ih =>
    obtain ⟨q1, q2, q3, q4, q5, q6⟩ := ih
    refine ⟨by simp [q1], fun i r hr => ?_, fun r hr => ?_, fun i r q hr hq => ?_, (fun e => by cases e), fun r hr => ?_⟩
    · cases i with
      | zero => simp at hr; subst hr; exact ⟨rfl, s⟩
      | succ i => simpa using q2 i r (by simpa using hr)
    · simp at hr; subst hr; exact ⟨rfl, rfl⟩
    · cases i with
      | zero =>
        simp at hr hq; subst hr
        obtain ⟨g1, g2⟩ := q3 q (by simpa using hq)
        exact ⟨g1, g2⟩
      | succ i => exact q4 i r q (by simpa using hr) (by simpa using hq)
    · cases hrs : rs with
      | nil =>
        subst hrs
        simp at hr; subst hr
        exact q5 rfl
      | cons r0 rs0 =>
        refine q6 r ?_
        rw [hrs] at hr ⊢
        simpa using hr

theorem Run1.rnd {l : List Oper} {a a₂ : AA} {h h₂ : AH} {rs : List Rec} (ht : Run1 P ops l a h rs a₂ h₂) : a₂.rnd = a.rnd := by
  induction ht with
  | nil a h => rfl
  | cons s t ih => rw [ih, AA.put_rnd]

theorem Run1.vals {a a₂ : AA} {h h₂ : AH} {rs : List Rec} (ht : Run1 P ops ops.toList a h rs a₂ h₂) : (∀ (i : Nat) r, rs[i]? = some r → r.a.n = a.n ∧ ∀ t, r.a.get t = valT rs a t (lastB (writesAt rs a.n t) i)) ∧
    a₂.n = a.n ∧ ∀ t, a₂.get t = valT rs a t (lastB (writesAt rs a.n t) ops.size) := by
  obtain ⟨q1, q2, q3, q4, q5, q6⟩ := ht.get
  have put : ∀ (r : Rec) (t i : Nat), rs[i]? = some r → r.a.n = a.n → r.a.get t = valT rs a t (lastB (writesAt rs a.n t) i) → (r.a.put r.o.dst r.v).get t = valT rs a t (lastB (writesAt rs a.n t) (i + 1)) := by
    intro r t i hp g1 g2
    simp only [lastB, writesAt, hp]
    cases hd : r.o.dst with
    | none => simp only [AA.put]; rw [g2]; rfl
    | some d =>
      rw [AA.get_put, g1]
      by_cases hdt : d = t ∧ d < a.n
      · obtain ⟨rfl, hdn⟩ := hdt
        simp [hdn, valT, hp]
      · rw [if_neg hdt, g2]
        have : (some d == some t && decide (t < a.n)) = false := by
          rw [Bool.and_eq_false_iff]
          by_cases e : d = t
          · subst e; right; simpa using fun h => hdt ⟨rfl, h⟩
          · left; simpa using e
        rw [this]
        rfl
  have key : ∀ (i : Nat) r, rs[i]? = some r → r.a.n = a.n ∧ ∀ t, r.a.get t = valT rs a t (lastB (writesAt rs a.n t) i) := by
    intro i
    induction i with
    | zero => intro r hr; rw [(q3 r hr).1]; exact ⟨rfl, fun t => rfl⟩
    | succ i ih =>
      intro r hr
      have hlt : i < rs.length := by have := (List.getElem?_eq_some_iff.1 hr).1; omega
      have hp : rs[i]? = some rs[i] := List.getElem?_eq_getElem hlt
      obtain ⟨g1, g2⟩ := ih rs[i] hp
      rw [(q4 i rs[i] r hp hr).1]
      exact ⟨by rw [put_n, g1], fun t => put _ t i hp g1 (g2 t)⟩
  refine ⟨key, ?_⟩
  have q1' : rs.length = ops.size := by rw [q1]; simp
  cases hn : ops.size with
  | zero =>
    have : rs = [] := List.eq_nil_of_length_eq_zero (by omega)
    rw [(q5 this).1]
    exact ⟨rfl, fun t => rfl⟩
  | succ i =>
    have hlt : i < rs.length := by omega
    have hp : rs[i]? = some rs[i] := List.getElem?_eq_getElem hlt
    obtain ⟨g1, g2⟩ := key i rs[i] hp
    rw [(q6 rs[i] (by rw [q1', hn]; exact hp)).1]
    exact ⟨by rw [put_n, g1], fun t => put _ t i hp g1 (g2 t)⟩

end

/-- the edges put all in order that must be -/
def orderedB (P : Program) (ops : Array Oper) : Bool :=
  staticB ops && (let pl := clo ops.toList []
    below ops.size fun i => below ops.size fun k => match ops[i]?, ops[k]? with
      | some x, some y => if loud P y then (if loud P x then !decide (k < i) || (pl.getD i []).contains k else freeO x || (pl.getD i []).contains k || (pl.getD k []).contains i) else true
      | _, _ => true)


theorem draw_ordered {P : Program} {ops : Array Oper} (hob : orderedB P ops = true) {a : AA} {h : AH} {Q : AA → AH → Prop} (hh : wpX P ops ops.toList a h Q) {id : Nat} {ro : Option Nat} {D : List Deferred} {E : Ren} {w : World} {x : Act}
    {W : Exit → Act → World → Prop} (r : RW P E h w) (rt : RT E a x.tmps) (hdf : x.defers = D)
    (hQ : ∀ a₂ h₂ E' w' y, Q a₂ h₂ → a₂.rnd = a.rnd → RW P E' h₂ w' → Ext E w E' w' → RT E' a₂ y.tmps → y.defers = D → W .normal y w') : (Code.region id ops true).wpR ro P W x w := by
  obtain ⟨rs, a₂, h₂, ht, hq⟩ := wpX_run hh
  have hrnd := ht.rnd
  obtain ⟨q1, q2, q3, q4, q5, q6⟩ := ht.get
  obtain ⟨vals, hn₂, hv₂⟩ := ht.vals
  have q1' : rs.length = ops.size := by rw [q1]; simp
  unfold orderedB at hob
  rw [Bool.and_eq_true] at hob
  obtain ⟨hst, hord⟩ := hob
  unfold staticB at hst
  simp only [Bool.and_eq_true] at hst
  obtain ⟨hback, hst⟩ := hst
  have hops : ∀ (i : Nat) y, rs[i]? = some y → ops[i]? = some y.o ∧ i < ops.size := by
    intro i y hy
    refine ⟨?_, by have := (List.getElem?_eq_some_iff.1 hy).1; omega⟩
    have := (q2 i y hy).1
    simpa using this
  -- the trace, with just what is read known ahead of each operation
  let rs' : List Rec := rs.map fun r => { r with a := r.a.keep (readsOf ops r.o) }
  have hrs' : ∀ (i : Nat) y, rs'[i]? = some y → ∃ r, rs[i]? = some r ∧ y = { r with a := r.a.keep (readsOf ops r.o) } := by
    intro i y hy
    simp only [rs', List.getElem?_map, Option.map_eq_some_iff] at hy
    obtain ⟨r, h1, h2⟩ := hy
    exact ⟨r, h1, h2.symm⟩
  have keepGet : ∀ (r : Rec), ∀ t ∈ readsOf ops r.o, (r.a.keep (readsOf ops r.o)).get t = r.a.get t := fun r t ht => AA.keep_mem r.a (readsOf ops r.o) t ht
  have valT' : ∀ t q, valT rs' a t q = valT rs a t q := by
    intro t q
    unfold valT
    cases q with
    | none => rfl
    | some k =>
      simp only [rs', List.getElem?_map]
      cases rs[k]? <;> rfl
  have wr' : ∀ t, writesAt rs' a.n t = writesAt rs a.n t := by
    intro t; funext k
    unfold writesAt
    simp only [rs', List.getElem?_map]
    cases rs[k]? <;> rfl
  have ld' : loudAt rs' = loudAt rs := by
    funext k
    unfold loudAt
    simp only [rs', List.getElem?_map]
    cases rs[k]? <;> rfl
  have loudS : ∀ i, loudAt rs i = true → ∃ y, ops[i]? = some y ∧ loud P y = true ∧ i < ops.size := by
    intro i hi
    unfold loudAt at hi
    split at hi
    · rename_i y hy
      obtain ⟨o1, l1⟩ := hops i y hy
      exact ⟨y.o, o1, (q2 i y hy).2.loud hi, l1⟩
    · cases hi
  have htr : TraceW P ops rs' a h h₂ := by
    refine ⟨by simp [rs', q1'], fun i y hy => ?_, fun y hy => ?_, fun i y z hy hz => ?_, ⟨fun e => ?_, fun y hy => ?_⟩, fun i y hy => ?_, fun i y hy => ?_, fun i y hy hq => ?_⟩
    · obtain ⟨r, h1, rfl⟩ := hrs' i y hy; exact (hops i r h1).1
    · obtain ⟨r, h1, rfl⟩ := hrs' 0 y hy; exact (q3 r h1).2
    · obtain ⟨r, h1, rfl⟩ := hrs' i y hy
      obtain ⟨s, h2, rfl⟩ := hrs' (i + 1) z hz
      exact (q4 i r s h1 h2).2
    · have : rs = [] := by
        have := congrArg List.length e
        simp [rs'] at this
        exact this
      exact (q5 this).2
    · have e : rs'.length = rs.length := by simp [rs']
      rw [e] at hy
      obtain ⟨r, h1, rfl⟩ := hrs' _ y hy
      exact (q6 r h1).2
    · obtain ⟨r, h1, rfl⟩ := hrs' i y hy
      refine ⟨by rw [AA.keep_n]; exact (vals i r h1).1, fun t v hv => ?_⟩
      have hm := AA.keep_only r.a (readsOf ops r.o) t v hv
      refine ⟨?_, hm⟩
      rw [wr', valT', ← (vals i r h1).2 t]
      exact AA.keep_get r.a _ t v hv
    · obtain ⟨r, h1, rfl⟩ := hrs' i y hy
      exact (q2 i r h1).2.step _ (AA.keep_n _ _) (keepGet r)
    · obtain ⟨r, h1, rfl⟩ := hrs' i y hy
      exact (q2 i r h1).2.quiet hq
  have how : OrderedW P ops rs' a.n h fun i => (clo ops.toList []).getD i [] := by
    refine ⟨fun m i l hg j hj => clo_ahead ops.toList [] (by simp) (by simp) (fun i j hj => by simp at hj) i j hj m l hg, fun i k x y d hx hy hne hd hlt hr => ?_, fun i k hi hk hki => ?_, ?_⟩
    · obtain ⟨x', hx', rfl⟩ := hrs' i x hx
      obtain ⟨y', hy', rfl⟩ := hrs' k y hy
      obtain ⟨o1, l1⟩ := hops i x' hx'
      obtain ⟨o2, l2⟩ := hops k y' hy'
      have t1 := below_at (below_at hst l1) l2
      simp only [o1, o2, Bool.or_eq_true, beq_iff_eq, hne, false_or] at t1
      rw [show y'.o.dst = some d from hd] at t1
      simp only at t1
      rw [if_pos (by simpa using hr)] at t1
      refine ⟨fun hk => ?_, fun hk => ?_⟩
      · rw [if_pos hk] at t1; simpa using t1
      · rw [if_neg (by omega)] at t1; simpa using t1
    · rw [ld'] at hi hk
      obtain ⟨x, o1, s1, l1⟩ := loudS i hi
      obtain ⟨y, o2, s2, l2⟩ := loudS k hk
      have := below_at (below_at hord l1) l2
      simp only [o1, o2, s1, s2, if_true, Bool.or_eq_true, Bool.not_eq_true', decide_eq_false_iff_not] at this
      rcases this with h | h
      · exact absurd hki h
      · simpa using h
    · intro i y hy hq q hql hf1 hf2
      obtain ⟨r, h1, rfl⟩ := hrs' i y hy
      have hs := (q2 i r h1).2
      obtain ⟨o1, l1⟩ := hops i r h1
      by_cases hfr : freeO r.o = true
      · exact hs.free hfr _ _ (AA.keep_n _ _) (keepGet r)
      · -- in order with all that may change the heap: where it runs the heap is as in the order of the text
        have hh := htr.heap i _ hy
        have hst2 := htr.step i _ hy
        have hqt := htr.quiet i _ hy hq
        simp only at hqt hst2 hh
        rw [hqt] at hst2
        rw [hh] at hst2
        have heq : q = lastB (loudAt rs') i ∨ heapT rs' h q = heapT rs' h (lastB (loudAt rs') i) := by
          left
          have hrel : ∀ k, loudAt rs' k = true → k ≠ i → k ∈ (clo ops.toList []).getD i [] ∨ i ∈ (clo ops.toList []).getD k [] := by
            intro k hk hne
            rw [ld'] at hk
            obtain ⟨y, o2, s2, l2⟩ := loudS k hk
            have := below_at (below_at hord l1) l2
            simp only [o1, o2, s2, if_true] at this
            by_cases hlx : loud P r.o = true
            · rw [if_pos hlx] at this
              -- a loud operation that stayed quiet (it was not wanted): in order with the others all the same
              have t2 := below_at (below_at hord l2) l1
              simp only [o1, o2, s2, hlx, if_true, Bool.or_eq_true, Bool.not_eq_true', decide_eq_false_iff_not] at this t2
              rcases Nat.lt_or_gt_of_ne hne with h | h
              · rcases this with h' | h'
                · exact absurd h h'
                · left; simpa using h'
              · rcases t2 with h' | h'
                · exact absurd h h'
                · right; simpa using h'
            · rw [if_neg hlx] at this
              simp only [hfr, Bool.false_or, Bool.or_eq_true] at this
              rcases this with h | h
              · left; simpa using h
              · right; simpa using h
          have hlt : ∀ k, k ∈ (clo ops.toList []).getD i [] → k < i := fun k hk => clo_lt hback i k hk
          have hlt2 : ∀ k, i ∈ (clo ops.toList []).getD k [] → i < k := fun k hk => clo_lt hback k i hk
          cases hb : lastB (loudAt rs') i with
          | none =>
            cases q with
            | none => rfl
            | some l =>
              exfalso
              have hl := hql l rfl
              have hne : l ≠ i := by
                rintro rfl
                unfold loudAt at hl
                rw [hy] at hl
                simp only at hl
                rw [hq] at hl; cases hl
              rcases hrel l hl hne with h | h
              · have := lastB_none hb l (hlt l h)
                rw [hl] at this; cases this
              · exact hf2 l hl ⟨l, rfl, Nat.le_refl _⟩ h
          | some m =>
            obtain ⟨m1, m2, m3⟩ := lastB_some hb
            have hmi : m ∈ (clo ops.toList []).getD i [] := by
              rcases hrel m m2 (by omega) with h | h
              · exact h
              · have := hlt2 m h; omega
            obtain ⟨l, rfl, hle⟩ := hf1 m hmi m2
            have hl := hql l rfl
            have hne : l ≠ i := by
              rintro rfl
              unfold loudAt at hl
              rw [hy] at hl
              simp only at hl
              rw [hq] at hl; cases hl
            rcases hrel l hl hne with h | h
            · have := m3 l (hlt l h) hl
              have : l = m := by omega
              rw [this]
            · exact absurd h (hf2 l hl ⟨l, rfl, Nat.le_refl _⟩)
        rcases heq with e | e
        · rw [e]; exact hst2
        · rw [e]; exact hst2
  refine wpR_region_draw fun t => ?_
  obtain ⟨m, l, e, hg, hl⟩ := schedule_good (mixed := P.follows .mixedOrders) hback t
  rw [e]
  have rd : RW P E h { w with drawn := w.drawn + 1 } := r.of_heap rfl
  exact draw_wpW htr how hn₂ (fun t v hv => by rw [wr', valT', ← hv₂ t]; exact hv) rd rt hdf (fun E' w' y p1 p2 p3 p4 => hQ a₂ h₂ E' w' y hq hrnd p1 (p2.of_heap rfl rfl rfl rfl (Nat.le_succ _)) p3 p4) hg hl

end Go.Ab

/- AbDrawZ -/
namespace Go.Ab
set_option linter.unusedVariables false
set_option linter.unusedSimpArgs false

def qcall (o : Oper) : Bool := match o.op with
  | .call c => match c.callee with
    | .builtin _ => false
    | _ => true
  | _ => false

/-- what may change the heap, if no call of a function does -/
def loudZ (P : Program) (o : Oper) : Bool := loud P o && !qcall o

def wpZ1 (P : Program) (ops : Array Oper) (o : Oper) (a : AA) (h : AH) (k : Value → AH → Prop) : Prop :=
  if qcall o then wpG P ops o a h fun v g => g = h ∧ k v h else wpG P ops o a h k

def wpZ (P : Program) (ops : Array Oper) : List Oper → AA → AH → List Rec → (List Rec → AA → AH → Prop) → Prop
  | [], a, h, rs, K => K rs a h
  | o :: l, a, h, rs, K => wpZ1 P ops o a h fun v h' => wpZ P ops l (a.put o.dst v) h' (rs ++ [⟨o, a, h, v, loudZ P o, h'⟩]) K

structure SZ (P : Program) (ops : Array Oper) (o : Oper) (a : AA) (h : AH) (v : Value) (q : Bool) (h' : AH) : Prop where
  loud : q = loudZ P o
  quiet : q = false → h' = h
  step : ∀ b : AA, b.n = a.n → (∀ t ∈ readsOf ops o, b.get t = a.get t) → StepW P ops o b h v h'
  free : freeO o = true → ∀ (g : AH) (b : AA), b.n = a.n → (∀ t ∈ readsOf ops o, b.get t = a.get t) → StepW P ops o b g v g

theorem stepZ {P : Program} {ops : Array Oper} {o : Oper} {a : AA} {h : AH} {k : Value → AH → Prop} (hh : wpZ1 P ops o a h k) : ∃ v h', SZ P ops o a h v (loudZ P o) h' ∧ k v h' := by
  unfold wpZ1 at hh
  split at hh
  · rename_i hq
    obtain ⟨v, q, h', s, e, hk⟩ := stepG hh
    subst e
    exact ⟨v, h', ⟨rfl, fun _ => rfl, s.step, s.free⟩, hk⟩
  · rename_i hq
    obtain ⟨v, q, h', s, hk⟩ := stepG hh
    refine ⟨v, h', ⟨rfl, fun e => ?_, s.step, s.free⟩, hk⟩
    cases q with
    | false => exact s.quiet rfl
    | true =>
      have := s.loud rfl
      unfold loudZ at e
      rw [this] at e
      simp only [Bool.true_and, Bool.not_eq_false'] at e
      exact absurd e hq

theorem any_of {α : Type} {p : α → Bool} {o : Option α} (h : o.any p = true) : ∃ x, o = some x ∧ p x = true := by
  cases o with
  | none => cases h
  | some x => exact ⟨x, rfl, h⟩

inductive RunZ (P : Program) (ops : Array Oper) : List Oper → AA → AH → List Rec → AA → AH → Prop
  | nil (a : AA) (h : AH) : RunZ P ops [] a h [] a h
  | cons {o : Oper} {l : List Oper} {a a₂ : AA} {h h' h₂ : AH} {v : Value} {q : Bool} {rs : List Rec} (s : SZ P ops o a h v q h') (t : RunZ P ops l (a.put o.dst v) h' rs a₂ h₂) :
      RunZ P ops (o :: l) a h (⟨o, a, h, v, q, h'⟩ :: rs) a₂ h₂

theorem wpZ_run {P : Program} {ops : Array Oper} {K : List Rec → AA → AH → Prop} : ∀ {l : List Oper} {a : AA} {h : AH} {rs : List Rec}, wpZ P ops l a h rs K → ∃ rs' a₂ h₂, RunZ P ops l a h rs' a₂ h₂ ∧ K (rs ++ rs') a₂ h₂ := by
  intro l
  induction l with
  | nil => intro a h rs hh; exact ⟨[], a, h, .nil a h, by rw [List.append_nil]; exact hh⟩
  | cons o l ih =>
    intro a h rs hh
    obtain ⟨v, h', s, hh⟩ := stepZ hh
    obtain ⟨rs', a₂, h₂, t, hq⟩ := ih hh
    exact ⟨_, a₂, h₂, .cons s t, by simpa using hq⟩

section
variable {P : Program} {ops : Array Oper}

theorem RunZ.get {l : List Oper} {a a₂ : AA} {h h₂ : AH} {rs : List Rec} (ht : RunZ P ops l a h rs a₂ h₂) :
    rs.length = l.length ∧ (∀ (i : Nat) r, rs[i]? = some r → l[i]? = some r.o ∧ SZ P ops r.o r.a r.h r.v r.q r.h') ∧
    (∀ r, rs[0]? = some r → r.a = a ∧ r.h = h) ∧ (∀ (i : Nat) r q, rs[i]? = some r → rs[i + 1]? = some q → q.a = r.a.put r.o.dst r.v ∧ q.h = r.h') ∧
    (rs = [] → a₂ = a ∧ h₂ = h) ∧ (∀ r, rs[rs.length - 1]? = some r → a₂ = r.a.put r.o.dst r.v ∧ h₂ = r.h') := by
  induction ht with
  | nil a h => simp
  | @cons o l a a₂ h h' h₂ v q rs s t ih =>
    obtain ⟨q1, q2, q3, q4, q5, q6⟩ := ih
    refine ⟨by simp [q1], fun i r hr => ?_, fun r hr => ?_, fun i r q hr hq => ?_, (fun e => by cases e), fun r hr => ?_⟩
    · cases i with
      | zero => simp at hr; subst hr; exact ⟨rfl, s⟩
      | succ i => simpa using q2 i r (by simpa using hr)
    · simp at hr; subst hr; exact ⟨rfl, rfl⟩
    · cases i with
      | zero =>
        simp at hr hq; subst hr
        obtain ⟨g1, g2⟩ := q3 q (by simpa using hq)
        exact ⟨g1, g2⟩
      | succ i => exact q4 i r q (by simpa using hr) (by simpa using hq)
    · cases hrs : rs with
      | nil =>
        subst hrs
        simp at hr; subst hr
        exact q5 rfl
      | cons r0 rs0 =>
        refine q6 r ?_
        rw [hrs] at hr ⊢
        simpa using hr

theorem RunZ.rnd {l : List Oper} {a a₂ : AA} {h h₂ : AH} {rs : List Rec} (ht : RunZ P ops l a h rs a₂ h₂) : a₂.rnd = a.rnd := by
  induction ht with
  | nil a h => rfl
  | cons s t ih => rw [ih, AA.put_rnd]

theorem RunZ.vals {a a₂ : AA} {h h₂ : AH} {rs : List Rec} (ht : RunZ P ops ops.toList a h rs a₂ h₂) : (∀ (i : Nat) r, rs[i]? = some r → r.a.n = a.n ∧ ∀ t, r.a.get t = valT rs a t (lastB (writesAt rs a.n t) i)) ∧
    a₂.n = a.n ∧ ∀ t, a₂.get t = valT rs a t (lastB (writesAt rs a.n t) ops.size) := by
  obtain ⟨q1, q2, q3, q4, q5, q6⟩ := ht.get
  have put : ∀ (r : Rec) (t i : Nat), rs[i]? = some r → r.a.n = a.n → r.a.get t = valT rs a t (lastB (writesAt rs a.n t) i) → (r.a.put r.o.dst r.v).get t = valT rs a t (lastB (writesAt rs a.n t) (i + 1)) := by
    intro r t i hp g1 g2
    simp only [lastB, writesAt, hp]
    cases hd : r.o.dst with
    | none => simp only [AA.put]; rw [g2]; rfl
    | some d =>
      rw [AA.get_put, g1]
      by_cases hdt : d = t ∧ d < a.n
      · obtain ⟨rfl, hdn⟩ := hdt
        simp [hdn, valT, hp]
      · rw [if_neg hdt, g2]
        have : (some d == some t && decide (t < a.n)) = false := by
          rw [Bool.and_eq_false_iff]
          by_cases e : d = t
          · subst e; right; simpa using fun h => hdt ⟨rfl, h⟩
          · left; simpa using e
        rw [this]
        rfl
  have key : ∀ (i : Nat) r, rs[i]? = some r → r.a.n = a.n ∧ ∀ t, r.a.get t = valT rs a t (lastB (writesAt rs a.n t) i) := by
    intro i
    induction i with
    | zero => intro r hr; rw [(q3 r hr).1]; exact ⟨rfl, fun t => rfl⟩
    | succ i ih =>
      intro r hr
      have hlt : i < rs.length := by have := (List.getElem?_eq_some_iff.1 hr).1; omega
      have hp : rs[i]? = some rs[i] := List.getElem?_eq_getElem hlt
      obtain ⟨g1, g2⟩ := ih rs[i] hp
      rw [(q4 i rs[i] r hp hr).1]
      exact ⟨by rw [put_n, g1], fun t => put _ t i hp g1 (g2 t)⟩
  refine ⟨key, ?_⟩
  have q1' : rs.length = ops.size := by rw [q1]; simp
  cases hn : ops.size with
  | zero =>
    have : rs = [] := List.eq_nil_of_length_eq_zero (by omega)
    rw [(q5 this).1]
    exact ⟨rfl, fun t => rfl⟩
  | succ i =>
    have hlt : i < rs.length := by omega
    have hp : rs[i]? = some rs[i] := List.getElem?_eq_getElem hlt
    obtain ⟨g1, g2⟩ := key i rs[i] hp
    rw [(q6 rs[i] (by rw [q1', hn]; exact hp)).1]
    exact ⟨by rw [put_n, g1], fun t => put _ t i hp g1 (g2 t)⟩

end


/-- can an operation run when just the loud ones up to q have? -/
def feasZ (P : Program) (ops : Array Oper) (pl : List (List Nat)) (i : Nat) (q : Option Nat) : Bool :=
  ((pl.getD i []).all fun p => !((ops[p]?).any (loudZ P)) || (match q with | some l => decide (p ≤ l) | none => false)) &&
  (match q with | some l => below (l + 1) fun l' => !((ops[l']?).any (loudZ P)) || !(pl.getD l' []).contains i | none => true)

/-- where quiet operations may run, too -/
def pairsZ (P : Program) (ops : Array Oper) : List (Nat × Option Nat) :=
  let pl := clo ops.toList []
  (List.range ops.size).flatMap fun i => match ops[i]? with
    | some o => if loudZ P o || freeO o then [] else
      (none :: ((List.range ops.size).filter fun k => (ops[k]?).any (loudZ P)).map some).filterMap fun q =>
        if feasZ P ops pl i q && !(q == lastB (fun k => (ops[k]?).any (loudZ P)) i) then some (i, q) else none
    | none => []

def obligZ (P : Program) (ops : Array Oper) (rs : List Rec) (h : AH) : List (Nat × Option Nat) → Prop
  | [] => True
  | (i, q) :: l => (match rs[i]? with
    | some r => wpZ1 P ops r.o r.a (heapT rs h q) fun v g => v = r.v ∧ g = heapT rs h q
    | none => False) ∧ obligZ P ops rs h l

theorem obligZ_mem {P : Program} {ops : Array Oper} {rs : List Rec} {h : AH} : ∀ {l : List (Nat × Option Nat)}, obligZ P ops rs h l → ∀ {i q r}, (i, q) ∈ l → rs[i]? = some r → wpZ1 P ops r.o r.a (heapT rs h q) fun v g => v = r.v ∧ g = heapT rs h q := by
  intro l
  induction l with
  | nil => intro _ i q r hm; cases hm
  | cons x l ih =>
    intro ho i q r hm hr
    obtain ⟨j, p⟩ := x
    obtain ⟨h1, h2⟩ := ho
    rcases List.mem_cons.1 hm with e | hm
    · cases e
      rw [hr] at h1
      exact h1
    · exact ih h2 hm hr

def orderedZ (P : Program) (ops : Array Oper) : Bool :=
  staticB ops && (let pl := clo ops.toList []
    below ops.size fun i => below ops.size fun k => match ops[i]?, ops[k]? with
      | some x, some y => !(loudZ P x && loudZ P y && decide (k < i)) || (pl.getD i []).contains k
      | _, _ => true)

theorem draw_Z {P : Program} {ops : Array Oper} (hob : orderedZ P ops = true) {a : AA} {h : AH} {Q : AA → AH → Prop} (hh : wpZ P ops ops.toList a h [] fun rs a₂ h₂ => obligZ P ops rs h (pairsZ P ops) ∧ Q a₂ h₂)
    {id : Nat} {ro : Option Nat} {D : List Deferred} {E : Ren} {w : World} {x : Act}
    {W : Exit → Act → World → Prop} (r : RW P E h w) (rt : RT E a x.tmps) (hdf : x.defers = D)
    (hQ : ∀ a₂ h₂ E' w' y, Q a₂ h₂ → a₂.rnd = a.rnd → RW P E' h₂ w' → Ext E w E' w' → RT E' a₂ y.tmps → y.defers = D → W .normal y w') : (Code.region id ops true).wpR ro P W x w := by
  obtain ⟨rs, a₂, h₂, ht, hob2, hq⟩ := wpZ_run hh
  rw [List.nil_append] at hob2
  have hrnd := ht.rnd
  obtain ⟨q1, q2, q3, q4, q5, q6⟩ := ht.get
  obtain ⟨vals, hn₂, hv₂⟩ := ht.vals
  have q1' : rs.length = ops.size := by rw [q1]; simp
  unfold orderedZ at hob
  rw [Bool.and_eq_true] at hob
  obtain ⟨hst, hord⟩ := hob
  unfold staticB at hst
  simp only [Bool.and_eq_true] at hst
  obtain ⟨hback, hst⟩ := hst
  have hops : ∀ (i : Nat) y, rs[i]? = some y → ops[i]? = some y.o ∧ i < ops.size := by
    intro i y hy
    refine ⟨?_, by have := (List.getElem?_eq_some_iff.1 hy).1; omega⟩
    have := (q2 i y hy).1
    simpa using this
  let rs' : List Rec := rs.map fun r => { r with a := r.a.keep (readsOf ops r.o) }
  have hrs' : ∀ (i : Nat) y, rs'[i]? = some y → ∃ r, rs[i]? = some r ∧ y = { r with a := r.a.keep (readsOf ops r.o) } := by
    intro i y hy
    simp only [rs', List.getElem?_map, Option.map_eq_some_iff] at hy
    obtain ⟨r, h1, h2⟩ := hy
    exact ⟨r, h1, h2.symm⟩
  have keepGet : ∀ (r : Rec), ∀ t ∈ readsOf ops r.o, (r.a.keep (readsOf ops r.o)).get t = r.a.get t := fun r t ht => AA.keep_mem r.a (readsOf ops r.o) t ht
  have valT' : ∀ t q, valT rs' a t q = valT rs a t q := by
    intro t q
    unfold valT
    cases q with
    | none => rfl
    | some k =>
      simp only [rs', List.getElem?_map]
      cases rs[k]? <;> rfl
  have wr' : ∀ t, writesAt rs' a.n t = writesAt rs a.n t := by
    intro t; funext k
    unfold writesAt
    simp only [rs', List.getElem?_map]
    cases rs[k]? <;> rfl
  have ld' : loudAt rs' = loudAt rs := by
    funext k
    unfold loudAt
    simp only [rs', List.getElem?_map]
    cases rs[k]? <;> rfl
  have hp' : ∀ q, heapT rs' h q = heapT rs h q := by
    intro q
    unfold heapT
    cases q with
    | none => rfl
    | some k =>
      simp only [rs', List.getElem?_map]
      cases rs[k]? <;> rfl
  have lz : ∀ k, loudAt rs k = (ops[k]?).any (loudZ P) := by
    intro k
    unfold loudAt
    cases hk : rs[k]? with
    | some y =>
      obtain ⟨o1, _⟩ := hops k y hk
      rw [o1]
      simp only [Option.any_some]
      exact (q2 k y hk).2.loud
    | none =>
      have : ops.size ≤ k := by rw [← q1']; exact List.getElem?_eq_none_iff.1 hk
      rw [Array.getElem?_eq_none this]
      rfl
  have htr : TraceW P ops rs' a h h₂ := by
    refine ⟨by simp [rs', q1'], fun i y hy => ?_, fun y hy => ?_, fun i y z hy hz => ?_, ⟨fun e => ?_, fun y hy => ?_⟩, fun i y hy => ?_, fun i y hy => ?_, fun i y hy hq => ?_⟩
    · obtain ⟨r, h1, rfl⟩ := hrs' i y hy; exact (hops i r h1).1
    · obtain ⟨r, h1, rfl⟩ := hrs' 0 y hy; exact (q3 r h1).2
    · obtain ⟨r, h1, rfl⟩ := hrs' i y hy
      obtain ⟨s, h2, rfl⟩ := hrs' (i + 1) z hz
      exact (q4 i r s h1 h2).2
    · have : rs = [] := by
        have := congrArg List.length e
        simp [rs'] at this
        exact this
      exact (q5 this).2
    · have e : rs'.length = rs.length := by simp [rs']
      rw [e] at hy
      obtain ⟨r, h1, rfl⟩ := hrs' _ y hy
      exact (q6 r h1).2
    · obtain ⟨r, h1, rfl⟩ := hrs' i y hy
      refine ⟨by rw [AA.keep_n]; exact (vals i r h1).1, fun t v hv => ?_⟩
      have hm := AA.keep_only r.a (readsOf ops r.o) t v hv
      refine ⟨?_, hm⟩
      rw [wr', valT', ← (vals i r h1).2 t]
      exact AA.keep_get r.a _ t v hv
    · obtain ⟨r, h1, rfl⟩ := hrs' i y hy
      exact (q2 i r h1).2.step _ (AA.keep_n _ _) (keepGet r)
    · obtain ⟨r, h1, rfl⟩ := hrs' i y hy
      exact (q2 i r h1).2.quiet hq
  have how : OrderedW P ops rs' a.n h fun i => (clo ops.toList []).getD i [] := by
    refine ⟨fun m i l hg j hj => clo_ahead ops.toList [] (by simp) (by simp) (fun i j hj => by simp at hj) i j hj m l hg, fun i k x y d hx hy hne hd hlt hr => ?_, fun i k hi hk hki => ?_, ?_⟩
    · obtain ⟨x', hx', rfl⟩ := hrs' i x hx
      obtain ⟨y', hy', rfl⟩ := hrs' k y hy
      obtain ⟨o1, l1⟩ := hops i x' hx'
      obtain ⟨o2, l2⟩ := hops k y' hy'
      have t1 := below_at (below_at hst l1) l2
      simp only [o1, o2, Bool.or_eq_true, beq_iff_eq, hne, false_or] at t1
      rw [show y'.o.dst = some d from hd] at t1
      simp only at t1
      rw [if_pos (by simpa using hr)] at t1
      refine ⟨fun hk => ?_, fun hk => ?_⟩
      · rw [if_pos hk] at t1; simpa using t1
      · rw [if_neg (by omega)] at t1; simpa using t1
    · rw [ld', lz] at hi hk
      obtain ⟨x, o1, s1⟩ := any_of hi
      obtain ⟨y, o2, s2⟩ := any_of hk
      have l1 := (Array.getElem?_eq_some_iff.1 o1).1
      have l2 := (Array.getElem?_eq_some_iff.1 o2).1
      have := below_at (below_at hord l1) l2
      simp only [o1, o2, s1, s2, hki, Bool.true_and, decide_true, Bool.not_true, Bool.false_or] at this
      simpa using this
    · intro i y hy hq q hql hf1 hf2
      obtain ⟨r, h1, rfl⟩ := hrs' i y hy
      have hs := (q2 i r h1).2
      obtain ⟨o1, l1⟩ := hops i r h1
      by_cases hfr : freeO r.o = true
      · exact hs.free hfr _ _ (AA.keep_n _ _) (keepGet r)
      · by_cases he : q = lastB (loudAt rs') i
        · have hh := htr.heap i _ hy
          have hst2 := htr.step i _ hy
          have hqt := htr.quiet i _ hy hq
          simp only at hqt hst2 hh
          rw [hqt, hh] at hst2
          rw [he]
          exact hst2
        · have hmem : (i, q) ∈ pairsZ P ops := by
            unfold pairsZ
            simp only [List.mem_flatMap, List.mem_range]
            refine ⟨i, l1, ?_⟩
            rw [o1]
            simp only
            have hl : loudZ P r.o = false := by rw [← hs.loud]; exact hq
            rw [if_neg (by simp [hl, hfr])]
            rw [List.mem_filterMap]
            refine ⟨q, ?_, ?_⟩
            · cases q with
              | none => simp
              | some l =>
                have hll := hql l rfl
                rw [ld', lz] at hll
                obtain ⟨z, o2, s2⟩ := any_of hll
                have l2 := (Array.getElem?_eq_some_iff.1 o2).1
                simp only [List.mem_cons, List.mem_map, List.mem_filter, List.mem_range]
                exact .inr ⟨l, ⟨l2, hll⟩, rfl⟩
            · rw [if_pos]
              rw [Bool.and_eq_true]
              constructor
              · unfold feasZ
                simp only [Bool.and_eq_true, List.all_eq_true, Bool.or_eq_true, Bool.not_eq_true']
                refine ⟨fun p hp => ?_, ?_⟩
                · cases hlp : (ops[p]?).any (loudZ P) with
                  | false => exact .inl rfl
                  | true =>
                    right
                    obtain ⟨l, rfl, hle⟩ := hf1 p hp (by rw [ld', lz]; exact hlp)
                    simpa using hle
                · cases q with
                  | none => rfl
                  | some l =>
                    simp only [below, List.all_eq_true, List.mem_range, Bool.or_eq_true, Bool.not_eq_true']
                    intro l' hl'
                    cases hlp : (ops[l']?).any (loudZ P) with
                    | false => exact .inl rfl
                    | true =>
                      right
                      have := hf2 l' (by rw [ld', lz]; exact hlp) ⟨l, rfl, by omega⟩
                      simpa using this
              · simp only [Bool.not_eq_true', beq_eq_false_iff_ne, ne_eq]
                intro e
                apply he
                rw [e]
                congr 1
                funext k
                rw [ld', lz]
          have hob3 := obligZ_mem hob2 hmem h1
          obtain ⟨v, g, s2, e1, e2⟩ := stepZ hob3
          subst e1 e2
          rw [hp']
          exact s2.step _ (AA.keep_n _ _) (keepGet r)
  refine wpR_region_draw fun t => ?_
  obtain ⟨m, l, e, hg, hl⟩ := schedule_good (mixed := P.follows .mixedOrders) hback t
  rw [e]
  have rd : RW P E h { w with drawn := w.drawn + 1 } := r.of_heap rfl
  exact draw_wpW htr how hn₂ (fun t v hv => by rw [wr', valT', ← hv₂ t]; exact hv) rd rt hdf (fun E' w' y p1 p2 p3 p4 => hQ a₂ h₂ E' w' y hq hrnd p1 (p2.of_heap rfl rfl rfl rfl (Nat.le_succ _)) p3 p4) hg hl

end Go.Ab

/- AbWp -/
namespace Go.Ab
set_option linter.unusedVariables false
set_option linter.unusedSimpArgs false

/-- the first region of code -/
def rid : Code → Nat
  | .region id _ _ => id
  | .seq a b => let n := rid a; if n = 1000000 then rid b else n
  | .cond _ a b => let n := rid a; if n = 1000000 then rid b else n
  | .block _ a | .loop a | .scope a => rid a
  | _ => 1000000

/-- a region whose operations may come in several orders -/
def wpD (P : Program) (ops : Array Oper) (a : AA) (h : AH) (Q : HX → AA → AH → Prop) : Prop :=
  ∃ call, CallOk P call ∧ ∃ a₂ h₂, drawRun P call ops a h = some (a₂, h₂) ∧ Q .normal a₂ h₂

def keepL (L : Nat → Option (List Nat)) (r : Nat) (a : AA) : AA := match L r with
  | some l => a.keep l
  | none => a

def AA.toArr (a : AA) : Array Value := ((List.range a.n).map fun t => match a.get t with | some v => knw v | none => unk).toArray

/-- the record of a loop that begins -/
def recOf (a : AA) (ps : Array Tmp) (x y : Code) : Loop := { state := .ready, pending := none, fn := 0, tmps := a.toArr, params := ps, assign := x, body := y, defers := 0 }

def hasBody (P : Program) (f : FuncId) : Bool := match P.funcs[f]? with
  | some fn => !(fn.name == "runtime.NumGoroutine") && fn.body.isSome
  | none => false

def jumpX (n r : Prop) (x g : Nat → Prop) : Option Code → Prop
  | none => n
  | some .ret => r
  | some (.exit i) => x i
  | some (.goto l) => g l
  | _ => False

def jumpK (Q : HX → AA → AH → Prop) (a : AA) (h : AH) (j : Option Code) : Prop := jumpX (Q .normal a h) (Q .ret a h) (fun i => Q (.exit i) a h) (fun l => Q (.goto l) a h) j

def rangeK (k : Nat) (K : Option Code → AH → Prop) (pk : Value → AH → Prop) : Res → AH → Prop
  | .ret _, h => bq (loopAt h k) fun r => r.1.state ≠ .busy ∧ K r.1.pending (h.put k none)
  | .pan v, h => pk v h

/-- a range over a function -/
def rangeQ (P : Program) (gv : Value) (r : Loop) (h : AH) (K : Option Code → AH → Prop) (pk : Value → AH → Prop) : Prop := match gv with
  | .func (.func f) first captured => hasBody P f = true ∧ HC P f (first.toList ++ .chan (some h.size) :: captured.toList).toArray (h.push (.loop r) none) (rangeK h.size K pk)
  | _ => False

def rndP (o : Option Nat) (h : AH) : Prop := match o with
  | none => True
  | some k => (loopAt h k).isSome = true

def rangeP (P : Program) (gv : Value) (ps : Array Tmp) (x y : Code) (ar a : AA) (h : AH) (Q : HX → AA → AH → Prop) : Prop :=
  rndP a.rnd h ∧ rangeQ P gv (recOf ar ps x y) h (fun j h => jumpK Q a h j) fun v h => Q (.panic v) a h

def condP (o : Option Value) (A B : Prop) : Prop := match o with
  | some (.bool b) => if b then A else B
  | _ => False

def wpC (P : Program) (L : Nat → Option (List Nat)) : Code → AA → AH → (HX → AA → AH → Prop) → Prop
  | .skip, a, h, Q => Q .normal a h
  | .label _, a, h, Q => Q .normal a h
  | .region _ ops draw, a, h, Q => if draw then (if orderedB P ops then wpX P ops ops.toList a h (fun a h => Q .normal a h) else if orderedZ P ops then wpZ P ops ops.toList a h [] (fun rs a' h' => obligZ P ops rs h (pairsZ P ops) ∧ Q .normal a' h') else wpD P ops a h Q) else wpO P ops (List.range ops.size) a h Q
  | .seq x y, a, h, Q => wpC P L x a h (seqK (fun a h => wpC P L y (keepL L (rid y) a) h Q) Q)
  | .cond c x y, a, h, Q => condP (a.opnd P c) (wpC P L x a h Q) (wpC P L y a h Q)
  | .block id x, a, h, Q => wpC P L x a h (blockK id Q)
  | .loop x, a, h, Q => HL P x (keepL L (rid x) a) h Q
  | .scope x, a, h, Q => HS P x x (keepL L (rid x) a) h Q
  | .exit id, a, h, Q => Q (.exit id) a h
  | .goto l, a, h, Q => Q (.goto l) a h
  | .ret, a, h, Q => Q .ret a h
  | .rangeFunc g ps x y, a, h, Q => oq (a.opnd P g) fun gv => rangeP P gv ps x y (keepL L (rid (.seq x y)) a) a h Q
  | _, _, _, _ => False

theorem RT.keepL {E : Ren} {a : AA} {t : Array Value} (h : RT E a t) (L : Nat → Option (List Nat)) (r : Nat) : RT E (Ab.keepL L r a) t := by
  unfold Ab.keepL
  split
  · exact h.keep _
  · exact h

theorem RX.keepL {B : Nat} {ro : Option Nat} {E : Ren} {w : World} {a : AA} {x : Act} (h : RX B ro E w a x) (L : Nat → Option (List Nat)) (r : Nat) : RX B ro E w (Ab.keepL L r a) x := by
  unfold Ab.keepL
  split
  · exact h.keep _
  · exact h

theorem trace_rnd {P : Program} {call : CallF} {ops : Array Oper} : ∀ {l : List Oper} {a : AA} {h : AH} {rs : List Rec} {a₂ : AA} {h₂ : AH}, trace P call ops l a h = some (rs, a₂, h₂) → a₂.rnd = a.rnd := by
  intro l
  induction l with
  | nil => intro a h rs a₂ h₂ hh; cases hh; rfl
  | cons o l ih =>
    intro a h rs a₂ h₂ hh
    simp only [trace] at hh
    split at hh
    · split at hh
      · rename_i ht
        cases hh
        rw [ih ht, AA.put_rnd]
      · cases hh
    · cases hh

theorem drawRun_rnd {P : Program} {call : CallF} {ops : Array Oper} {a a₂ : AA} {h h₂ : AH} (hd : drawRun P call ops a h = some (a₂, h₂)) : a₂.rnd = a.rnd := by
  unfold drawRun at hd
  split at hd
  case isFalse => cases hd
  split at hd
  case h_2 => cases hd
  rename_i ht
  split at hd
  case isFalse => cases hd
  cases hd
  exact trace_rnd ht

theorem RUA.toArr {E : Ren} {a : AA} {x : Array Value} (h : RT E a x) : RUA E a.toArr x := by
  refine ⟨by simp [AA.toArr, h.size], fun i v v' h1 h2 => ?_⟩
  simp only [AA.toArr, List.getElem?_toArray, List.getElem?_map, Option.map_eq_some_iff] at h1
  obtain ⟨j, h3, h4⟩ := h1
  have hj : j = i := by
    rw [List.getElem?_range (by have := (List.getElem?_eq_some_iff.1 h3).1; simpa using this)] at h3
    exact (Option.some.inj h3).symm
  subst hj
  cases hg : a.get j with
  | none => rw [hg] at h4; exact .inl h4.symm
  | some u =>
    rw [hg] at h4
    simp only at h4
    subst h4
    have := h.get j u hg
    rw [Array.getD_eq_getD_getElem?, h2] at this
    exact RU.knw this

theorem rangeK_jump {P : Program} {Q : HX → AA → AH → Prop} {a : AA} {h : AH} {j : Option Code} {B : Nat} {ro : Option Nat} {E : Ren} {w₀ : World} {E₀ : Ren} {w : World} {x : Act} (hj : jumpK Q a h j) (r : RW P E h w) (xe : Ext E₀ w₀ E w) (rx : RX B ro E w a x) :
    match (generalizing := false) j with
    | none => HPost P B ro E₀ w₀ Q .normal x w
    | some c => c.wpIn (Fr ro) 0 P (HPost P B ro E₀ w₀ Q) x w := by
  unfold jumpK jumpX at hj
  split at hj
  · exact ⟨.normal, a, h, E, trivial, r, xe, rx, hj⟩
  · exact wpIn_ret ⟨.ret, a, h, E, trivial, r, xe, rx, hj⟩
  · exact wpIn_exit ⟨.exit _, a, h, E, rfl, r, xe, rx, hj⟩
  · exact wpIn_goto ⟨.goto _, a, h, E, rfl, r, xe, rx, hj⟩
  · cases hj

theorem markOf_inj : ∀ {l m : List Nat}, l.map markOf = m.map markOf → l = m := by
  intro l
  induction l with
  | nil => intro m h; cases m with
    | nil => rfl
    | cons _ _ => cases h
  | cons n l ih =>
    intro m h
    cases m with
    | nil => cases h
    | cons k m =>
      simp only [List.map_cons, List.cons.injEq] at h
      have hk : n = k := by
        have := h.1
        simp only [markOf, Deferred.mk.injEq, Target.collected.injEq] at this
        exact this.1
      rw [hk, ih h.2]

/-- a range over a function -/
theorem range_ok {P : Program} {g : Operand} {ps : Array Tmp} {assign body : Code} {a ar : AA} {h : AH} {Q : HX → AA → AH → Prop} {gv : Value} (hg : a.opnd P g = some gv) (hh : rangeP P gv ps assign body ar a h Q)
    (har : ∀ E t, RT E a t → RT E ar t) : HW P (.rangeFunc g ps assign body) a h Q := by
  intro B ro E w x r rx
  obtain ⟨hrnd, hh⟩ := hh
  unfold rndP at hrnd
  unfold rangeQ at hh
  split at hh
  case h_2 => cases hh
  rename_i f first captured
  obtain ⟨hbd, hh⟩ := hh
  have hv := rx.rt.opnd r g _ hg
  generalize hx : x.eval g = fv at hv
  cases hv with
  | func _ hf1 hc1 hf2 hc2 =>
    rename_i first' captured'
    refine wpIn_rangeFunc fun fn _ => ?_
    -- the record is laid
    have lay : ∃ (l : Nat) (mark : List Deferred) (w₁ : World) (E₁ : Ren), (Instr.enterLoop fn x.tmps ps assign body (Fr ro).round).run P w = .ok (l, mark) w₁ ∧
        RW P E₁ (h.push (.loop (recOf ar ps assign body)) none) w₁ ∧ Ext E w E₁ w₁ ∧ E₁.at_ h.size = some l ∧ XD B E₁ w₁ (mark ++ x.defers) := by
      rw [Fr_round]
      cases ro with
      | none =>
        obtain ⟨r1, x1⟩ := r.beside (.deferred (some []))
        obtain ⟨r2, x2⟩ := r1.push (o := .loop (recOf ar ps assign body)) (o' := .loop { state := .ready, pending := none, fn, tmps := x.tmps, params := ps, assign, body, defers := w.heap.size }) none
          (.loop rfl rfl rfl rfl rfl (RUA.toArr (har E _ rx.rt)).1 fun i v v' a b => ((RUA.toArr (har E _ rx.rt)).2 i v v' a b).mono (Ren.le_add r1 _ _))
        refine ⟨_, _, _, _, run_enterLoop_outer fn x.tmps ps assign body, r2, x1.trans x2, by simp [Ren.add, World.size_alloc], ?_⟩
        obtain ⟨h0, ns, h1, h2, h3⟩ := (rx.xd.ext x1).ext x2
        obtain ⟨_, ns', h1', _, h3'⟩ := rx.xd
        refine ⟨h0, w.heap.size :: ns, by rw [h1]; rfl, List.nodup_cons.2 ⟨fun hm => ?_, h2⟩, fun n hn => ?_⟩
        · have e : ns = ns' := markOf_inj (h1.symm.trans h1')
          rw [e] at hm
          have := (Array.getElem?_eq_some_iff.1 (h3' _ hm).2.1).1
          omega
        · rcases List.mem_cons.1 hn with rfl | hn
          · refine ⟨rx.xd.1, ?_, fun k hk => ?_⟩
            · show ((w.alloc _).heap.push _)[_]? = _
              rw [Array.getElem?_push, if_neg (by rw [World.size_alloc]; omega)]
              exact World.alloc_heap_new w _
            · simp only [Ren.add, World.size_alloc] at hk
              split at hk
              · have := Option.some.inj hk; omega
              · have := (r.dom k _ hk).2; omega
          · exact h3 n hn
      | some l₀ =>
        have hrd := rx.rd
        cases hrk : a.rnd with
        | none => rw [hrk] at hrd; cases hrd
        | some k0 =>
          rw [hrk] at hrd hrnd
          obtain ⟨⟨r0, s0⟩, hr0⟩ := Option.isSome_iff_exists.1 hrnd
          obtain ⟨_, n0, r0', p1, p2, _⟩ := r.loopAt hr0
          rw [show E.at_ k0 = some l₀ from hrd] at p1
          cases p1
          obtain ⟨r2, x2⟩ := r.push (o := .loop (recOf ar ps assign body)) (o' := .loop { state := .ready, pending := none, fn, tmps := x.tmps, params := ps, assign, body, defers := r0'.defers }) none
            (.loop rfl rfl rfl rfl rfl (RUA.toArr (har E _ rx.rt)).1 fun i v v' a b => ((RUA.toArr (har E _ rx.rt)).2 i v v' a b).mono (Ren.le_add r _ _))
          exact ⟨_, _, _, _, run_enterLoop_inner p2 fn x.tmps ps assign body, r2, x2, by simp [Ren.add], rx.xd.ext x2⟩
    obtain ⟨l, mark, w₁, E₁, hent, r₁, x₁, hat, hxd⟩ := lay
    have hra : RA E₁ (first.toList ++ .chan (some h.size) :: captured.toList).toArray (first' ++ #[.func (.yield l) #[] #[]] ++ captured') := by
      have e3 : (first.toList ++ Value.chan (some h.size) :: captured.toList).toArray = first ++ #[Value.chan (some h.size)] ++ captured := Array.ext' (by simp)
      rw [e3]
      exact RA.append (RA.append (RA.mono x₁.le ⟨hf1, hf2⟩) (RA.one (.yld hat))) (RA.mono x₁.le ⟨hc1, hc2⟩)
    have henter : enterOf P f (first.toList ++ .chan (some h.size) :: captured.toList) (h.push (.loop (recOf ar ps assign body)) none) = some (.enter f (first.toList ++ .chan (some h.size) :: captured.toList).toArray (h.push (.loop (recOf ar ps assign body)) none)) := by
      unfold enterOf
      unfold hasBody at hbd
      split at hbd
      · rename_i fn' hfn
        simp only [Bool.and_eq_true, Bool.not_eq_true'] at hbd
        simp only [hfn, hbd.1, Bool.false_eq_true, if_false]
        rw [if_neg]
        cases hb : fn'.body with
        | none => rw [hb] at hbd; cases hbd.2
        | some _ => simp
      · cases hbd
    obtain ⟨E₂, args₂, w₂, g1, g2, g3, g4⟩ := enterOf_ok r₁ henter hra
    refine ⟨l, mark, w₁, { target := .fn (.func f) captured', args := first' ++ #[.func (.yield l) #[] #[]] }, w₁, f, args₂, w₂, hent, ?_, fun f' _ => Fr_fn ro f', ?_, fun hd => (by rw [Fr_depth] at hd; cases hd), callsIn ?_⟩
    · have ec : x.eval (.const (.func (.yield l) #[] #[])) = .func (.yield l) #[] #[] := rfl
      simp [resolve, rangeCall, hx, Deferred.ofValue, ec]
    · simp only [invoke]
      exact g1
    · refine (hh E₂ w₂ args₂ g2 g4).mono ?_
      rintro e w₃ ⟨E₃, res, h₃, q1, q2, q3, q4⟩
      have x3 : Ext E w E₃ w₃ := x₁.trans (g3.trans q3)
      have hxd3 : XD B E₃ w₃ (mark ++ x.defers) := (hxd.ext g3).ext q3
      cases res with
      | ret v =>
        cases e with
        | returned v' =>
          obtain ⟨⟨rl, s⟩, hl, hst, hj⟩ := bq_eq q4
          simp only at hst hj
          obtain ⟨hg3, n3, rl', p1, p2, p3, p4, _⟩ := q2.loopAt hl
          have hn : n3 = l := by
            have := (g3.trans q3).le.at_ _ _ hat
            rw [p1] at this
            exact Option.some.inj this
          subst hn
          obtain ⟨r4, x4⟩ := q2.loopPut hl p1 p2 .exhausted rl.pending
          have eb : ({ rl' with state := .exhausted, pending := rl.pending } : Loop) = { rl' with state := .exhausted } := by rw [← p4]
          rw [eb] at r4 x4
          have r5 : RW P E₃ (h₃.put h.size none) (w₃.putObj n3 (.loop { rl' with state := .exhausted })) := r4.less (Nat.le_refl _) fun k y hk => by
            rw [AH.get_put] at hk ⊢
            split at hk
            · cases hk
            · rename_i e; rw [if_neg e]; exact hk
          refine ⟨_, _, run_endLoop p2 (by rw [p3]; exact hst), ?_⟩
          rw [← p4] at hj
          have rx5 : RX B ro E₃ (w₃.putObj n3 (.loop { rl' with state := .exhausted })) a { x with defers := mark ++ x.defers } :=
            ⟨rx.rt.mono (x3.trans x4).le, rx.rd.mono (x3.trans x4).le, hxd3.ext x4⟩
          exact rangeK_jump hj r5 (x3.trans x4) rx5
        | _ => cases q1
      | pan v =>
        cases e with
        | panicked chain =>
          exact ⟨.panic v, a, h₃, E₃, q1, q2, x3, ⟨rx.rt.mono x3.le, rx.rd.mono x3.le, hxd3⟩, q4⟩
        | _ => cases q1

theorem wpC_ok {P : Program} {L : Nat → Option (List Nat)} : ∀ (c : Code) {a : AA} {h : AH} {Q : HX → AA → AH → Prop}, wpC P L c a h Q → HW P c a h Q := by
  intro c
  induction c with
  | skip => intro a h Q hh B ro E w x r rx; exact wpIn_skip ⟨.normal, a, h, E, trivial, r, .refl E w, rx, hh⟩
  | label l => intro a h Q hh B ro E w x r rx; exact wpIn_label ⟨.normal, a, h, E, trivial, r, .refl E w, rx, hh⟩
  | exit id => intro a h Q hh B ro E w x r rx; exact wpIn_exit ⟨.exit id, a, h, E, rfl, r, .refl E w, rx, hh⟩
  | goto l => intro a h Q hh B ro E w x r rx; exact wpIn_goto ⟨.goto l, a, h, E, rfl, r, .refl E w, rx, hh⟩
  | ret => intro a h Q hh B ro E w x r rx; exact wpIn_ret ⟨.ret, a, h, E, trivial, r, .refl E w, rx, hh⟩
  | region id ops draw =>
    intro a h Q hh B ro E w x r rx
    cases draw with
    | false => exact wpR_region (wpO_ok _ hh r (.refl E w) rx)
    | true =>
      simp only [wpC, if_true] at hh
      split at hh
      · rename_i hob
        exact draw_ordered hob hh r rx.rt rfl fun a₂ h₂ E' w' y hq hr q1 q2 q3 q4 => ⟨.normal, a₂, h₂, E', trivial, q1, q2, rx.next q2 q3 q4 hr, hq⟩
      split at hh
      · rename_i hoz
        exact draw_Z (Q := fun a h => Q .normal a h) hoz hh r rx.rt rfl fun a₂ h₂ E' w' y hq hr q1 q2 q3 q4 => ⟨.normal, a₂, h₂, E', trivial, q1, q2, rx.next q2 q3 q4 hr, hq⟩
      obtain ⟨call, hc, a₂, h₂, hr, hq⟩ := hh
      exact drawRun_ok hc hr r rx.rt rfl fun E' w' y q1 q2 q3 q4 => ⟨.normal, a₂, h₂, E', trivial, q1, q2, rx.next q2 q3 q4 (drawRun_rnd hr), hq⟩
  | seq p q ihp ihq =>
    intro a h Q hh B ro E w x r rx
    refine wpIn_seq (wpIn_mono (ihp hh B ro E w x r rx) ?_)
    rintro e y w' ⟨hx, a', h', E', h1, h2, h3, h4, h6⟩
    cases hx with
    | normal =>
      cases e with
      | normal => exact wpIn_mono (ihq h6 B ro E' w' y h2 (h4.keepL L _)) fun e y w hp => hp.ext h3
      | _ => cases h1
    | _ =>
      cases e <;> first
        | (cases h1; done)
        | exact ⟨_, a', h', E', h1, h2, h3, h4, h6⟩
  | cond c p q ihp ihq =>
    intro a h Q hh B ro E w x r rx
    simp only [wpC, condP] at hh
    split at hh
    · rename_i b hb
      have hv := rx.rt.opnd r c _ hb
      generalize hx : x.eval c = u at hv
      cases hv
      cases b with
      | true => exact wpIn_cond_true hx (ihp (by simpa using hh) B ro E w x r rx)
      | false => exact wpIn_cond_false hx (ihq (by simpa using hh) B ro E w x r rx)
    · cases hh
  | block id p ihp =>
    intro a h Q hh B ro E w x r rx
    refine wpIn_block (wpIn_mono (ihp hh B ro E w x r rx) ?_)
    rintro e y w' ⟨hx, a', h', E', h1, h2, h3, h4, h6⟩
    cases hx with
    | exit i =>
      cases e with
      | exit j =>
        have h1' : i = j := h1
        subst h1'
        simp only [blockK] at h6
        simp only [Exit.inBlock]
        split at h6
        · rename_i e; rw [if_pos e]; exact ⟨.normal, a', h', E', trivial, h2, h3, h4, h6⟩
        · rename_i e; rw [if_neg e]; exact ⟨.exit i, a', h', E', rfl, h2, h3, h4, h6⟩
      | _ => cases h1
    | _ =>
      cases e <;> first
        | (cases h1; done)
        | exact ⟨_, a', h', E', h1, h2, h3, h4, h6⟩
  | loop p ihp =>
    intro a h Q hh B ro E w x r rx
    exact LoopW.wp (hh B ro E w x r (rx.keepL L _))
  | scope p ihp =>
    intro a h Q hh B ro E w x r rx
    exact ScopeW.wp (hh B ro E w x r (rx.keepL L _))
  | rangeFunc g ps p q ihp ihq =>
    intro a h Q hh
    obtain ⟨gv, hg, hh⟩ := oq_eq hh
    exact range_ok hg hh fun E t rt => rt.keepL L _
  | _ => intro a h Q hh; cases hh

/-- one more round of a loop -/
theorem HL.step {P : Program} {L : Nat → Option (List Nat)} {c : Code} {a : AA} {h : AH} {Q : HX → AA → AH → Prop} (hh : wpC P L c a h (seqK (fun a h => HL P c (keepL L (rid c) a) h Q) Q)) : HL P c a h Q := by
  refine HL.round fun B ro E w x r rx => wpIn_mono (wpC_ok c hh B ro E w x r rx) fun e y w' hp => hp.mono fun e a h hq => ?_
  cases e with
  | normal =>
    intro B ro E w x r rx
    exact hq B ro E w x r (rx.keepL L _)
  | _ => exact hq

/-- code within a scope -/
theorem HS.step {P : Program} {L : Nat → Option (List Nat)} {c d : Code} {a : AA} {h : AH} {Q : HX → AA → AH → Prop}
    (hh : wpC P L d a h (scopeK (fun l a h => match findLabel c l with | some rest => HS P c rest (keepL L (rid rest) a) h Q | none => False) Q)) : HS P c d a h Q := by
  refine HS.run fun B ro E w x r rx => wpIn_mono (wpC_ok d hh B ro E w x r rx) fun e y w' hp => hp.mono fun e a h hq => ?_
  cases e with
  | goto l =>
    simp only [scopeK] at hq ⊢
    cases hf : findLabel c l with
    | none => rw [hf] at hq; cases hq
    | some rest =>
      rw [hf] at hq
      intro B ro E w x r rx
      exact hq B ro E w x r (rx.keepL L _)
  | _ => exact hq

/-- behind a function's body -/
def retK (P : Program) (res : List ResultVar) (Q : Res → AH → Prop) : HX → AA → AH → Prop
  | .normal, a, h | .ret, a, h => bq (resultsOf P a h res) fun vs => Q (.ret (oneOf vs)) h
  | .panic v, a, h => Q (.pan v) h
  | _, _, _ => False

/-- the temporaries at the beginning of a function -/
def argA (args : List Value) (n : Nat) : AA := ⟨tmsOf 0 args .leaf, args.length + (n - args.length), none⟩

/-- marks are taken when a function is left -/
theorem leaves_marks {P : Program} {fn : Func} {tmps : Array Value} {R : Ending → World → Prop} {B : Nat} {E : Ren} {h : AH} : ∀ (ds : List Deferred) {u : FrameMode} {w : World}, u ≠ .run → RW P E h w → XD B E w ds →
    (∀ w', RW P E h w' → w'.heap.size = w.heap.size → (∀ n, n < B → w'.heap[n]? = w.heap[n]?) → (∀ k n, E.at_ k = some n → w'.heap[n]? = w.heap[n]?) → (∀ n, (E.fro n).isSome = true → w'.heap[n]? = w.heap[n]?) →
      w'.os = w.os → w'.output = w.output → w'.tape = w.tape → w'.drawn = w.drawn → LeavesIn Fence.wide 0 P fn tmps R [] u w') → LeavesInM Fence.wide 0 P fn tmps R ds u w := by
  intro ds
  induction ds with
  | nil => intro u w hu r xd hk; exact hk w r rfl (fun _ _ => rfl) (fun _ _ _ => rfl) (fun _ _ => rfl) rfl rfl rfl rfl
  | cons d ds ih =>
    intro u w hu r xd hk
    obtain ⟨h0, ns, h1, h2, h3⟩ := xd
    cases ns with
    | nil => cases h1
    | cons n ns =>
      have hd : d = markOf n := by injection h1
      have hds : ds = ns.map markOf := by injection h1
      obtain ⟨g1, g2, g3⟩ := h3 n (by simp)
      have hlt := (Array.getElem?_eq_some_iff.1 g2).1
      have hnf : E.fro n = none := by
        cases hf : E.fro n with
        | none => rfl
        | some c =>
          obtain ⟨_, _, _, q1, _⟩ := r.frz n c hf
          rw [g2] at q1; cases q1
      have r' := r.asideFrom (.deferred none) g3 hnf
      refine ⟨hu, .inl ⟨n, _, by rw [hd]; rfl, run_takeDeferred g2, ih hu r' ⟨by rw [World.putObj_size]; exact h0, ns, hds, (List.nodup_cons.1 h2).2, fun m hm => ?_⟩ fun w' k1 k2 k3 k4 k5 k6 k7 k8 k9 => ?_⟩⟩
      · obtain ⟨f1, f2, f3⟩ := h3 m (List.mem_cons_of_mem _ hm)
        have : m ≠ n := fun e => (List.nodup_cons.1 h2).1 (e ▸ hm)
        exact ⟨f1, by rw [World.putObj_heap_other this]; exact f2, f3⟩
      · refine hk w' k1 (by rw [k2, World.putObj_size]) (fun m hm => ?_) (fun k m hm => ?_) (fun m hm => ?_) k6 k7 k8 k9
        · rw [k3 m hm, World.putObj_heap_other (by omega)]
        · rw [k4 k m hm, World.putObj_heap_other (fun e => g3 k (by rw [← e]; exact hm))]
        · rw [k5 m hm, World.putObj_heap_other (fun e => by subst e; rw [hnf] at hm; cases hm)]

theorem HC.body {P : Program} {L : Nat → Option (List Nat)} {f : FuncId} {fn : Func} {c : Code} {args : List Value} {h : AH} {Q : Res → AH → Prop} (hf : P.funcs[f]? = some fn) (hb : fn.body = some c)
    (hh : wpC P L c (argA args fn.ntmps) h (retK P fn.results.toList Q)) : HC P f args.toArray h Q := by
  intro E w args' r ra
  refine callsIn_wide.1 (callsIn_of_wp_marks (n := 0) hf hb trivial ?_)
  have hst := RT.start ra fn.ntmps
  have e0 : (⟨tmsOf 0 args.toArray.toList .leaf, args.toArray.size + (fn.ntmps - args.toArray.size), none⟩ : AA) = argA args fn.ntmps := by simp [argA]
  rw [e0] at hst
  refine wpIn_mono (wpC_ok c hh w.heap.size none E w _ r ⟨hst, trivial, XD.nil E w⟩) ?_
  rintro e y w' ⟨hx, a', h', E', h1, h2, h3, h4, h6⟩
  have leave : ∀ {w'' : World}, w''.heap.size = w'.heap.size → (∀ n, n < w.heap.size → w''.heap[n]? = w'.heap[n]?) → (∀ n, (E'.fro n).isSome = true → w''.heap[n]? = w'.heap[n]?) →
      w''.os = w'.os → w''.output = w'.output → w''.tape = w'.tape → w''.drawn = w'.drawn → Ext E w E' w'' := fun k2 k3 k5 k6 k7 k8 k9 => by
    refine ⟨h3.le, h3.range, by rw [k2]; exact h3.size, fun n hn hj => ?_, k6.trans h3.os, k7.trans h3.output, k8.trans h3.tape, by rw [k9]; exact h3.drawn, fun n hn => ?_⟩
    · rw [k3 n hn, h3.frame n hn hj]
    · obtain ⟨c, hc⟩ := Option.isSome_iff_exists.1 hn
      rw [k5 n (by rw [h3.le.fro n c hc]; rfl), h3.ice n hn]
  have fin : bq (resultsOf P a' h' fn.results.toList) (fun vs => Q (.ret (oneOf vs)) h') → LeavesInM Fence.wide 0 P fn y.tmps (fun e w' => ∃ E' r h', Res.rel E' r e ∧ RW P E' h' w' ∧ Ext E w E' w' ∧ Q r h') y.defers .returning w' := by
    intro hq
    obtain ⟨vs, e1, hq⟩ := bq_eq hq
    refine leaves_marks _ (by simp) h2 h4.xd fun w'' k1 k2 k3 k4 k5 k6 k7 k8 k9 => ?_
    obtain ⟨v', g1, g2⟩ := results_run k1 h4.rt e1
    exact ⟨v', g1, E', .ret (oneOf vs), h', g2, k1, leave k2 k3 k5 k6 k7 k8 k9, hq⟩
  cases hx with
  | normal =>
    cases e with
    | normal => exact fin h6
    | _ => cases h1
  | ret =>
    cases e with
    | ret => exact fin h6
    | _ => cases h1
  | panic v =>
    cases e with
    | panic chain =>
      refine leaves_marks _ (by simp) h2 h4.xd fun w'' k1 k2 k3 k4 k5 k6 k7 k8 k9 => ?_
      exact ⟨E', .pan v, h', h1, k1, leave k2 k3 k5 k6 k7 k8 k9, h6⟩
    | _ => cases h1
  | _ => cases h6

end Go.Ab

/- AbGhost -/
namespace Go.Ab
set_option linter.unusedVariables false
set_option linter.unusedSimpArgs false

/-- what is said anew of a value and a heap -/
def Gh (P : Program) (h : AH) (v : Value) (h' : AH) (v' : Value) : Prop := ∀ E w u, RW P E h w → RV E v u → ∃ E', RW P E' h' w ∧ Ext E w E' w ∧ RV E' v' u

theorem Gh.refl (P : Program) (h : AH) (v : Value) : Gh P h v h v := fun E w u r rv => ⟨E, r, .refl E w, rv⟩
theorem Gh.trans {P : Program} {h h' h'' : AH} {v v' v'' : Value} (a : Gh P h v h' v') (b : Gh P h' v' h'' v'') : Gh P h v h'' v'' := fun E w u r rv => by
  obtain ⟨E', r', x, rv'⟩ := a E w u r rv
  obtain ⟨E'', r'', x', rv''⟩ := b E' w u r' rv'
  exact ⟨E'', r'', x.trans x', rv''⟩

/-- a row of the abstract heap is said to stay as it is -/
def Ren.still (E : Ren) (b : Nat) (c : Array Value) : Ren := { at_ := E.at_, soft := E.soft, fro := fun n => if n = b then some c else E.fro n }

theorem rw_ice {P : Program} {E : Ren} {h : AH} {w : World} (r : RW P E h w) {k b : Nat} {c : Array Value} {e : TypeId} {s : Option Nat} (hk : h.get k = some (.cells c e (0, 0), s)) (hat : E.at_ k = some b) :
    ∃ c', (∀ (i : Nat) v v', c[i]? = some v → c'[i]? = some v' → RV (E.still b c') v v') ∧ c'.size = c.size ∧ RW P (E.still b c') (h.put k (some (.cells c e (0, 1), s))) w ∧ Ext E w (E.still b c') w := by
  obtain ⟨cw, fz, g1, g2, g3, g4⟩ := r.cells hk hat
  have hnf := r.unfro hk hat rfl
  have le : E.Le (E.still b (cw.extract 0 c.size)) := ⟨fun _ _ h => h, fun _ _ _ => rfl, fun _ _ h => h, fun n d hd => by
    simp only [Ren.still]
    rw [if_neg]
    · exact hd
    · rintro rfl; rw [hnf] at hd; cases hd⟩
  have hrel : ∀ (i : Nat) v v', c[i]? = some v → cw[i]? = some v' → RV (E.still b (cw.extract 0 c.size)) v v' := fun i v v' h1 h2 => (g3 i v v' h1 h2).mono le
  have hsz : (cw.extract 0 c.size).size = c.size := by simp; omega
  refine ⟨cw.extract 0 c.size, fun i v v' h1 h2 => ?_, hsz, ⟨r.glob, fun j n hj => by simpa using r.dom j n hj, r.sdom, fun j o t hj => ?_, fun i j n hi hj gi gj => ?_, fun n d hd => ?_, fun j o t n hj hn hf => ?_, r.sep⟩,
    ⟨le, fun j n hj => .inl ⟨j, hj⟩, Nat.le_refl _, fun _ _ _ => rfl, rfl, rfl, rfl, Nat.le_refl _, fun _ _ => rfl⟩⟩
  · rw [Array.getElem?_extract] at h2
    split at h2
    · rw [Nat.zero_add] at h2; exact hrel i v v' h1 h2
    · cases h2
  · rw [AH.get_put] at hj
    split at hj
    · rename_i ej; subst ej; cases hj
      obtain ⟨n, o', p1, p2, p3, p4⟩ := r.live j _ s hk
      rw [hat] at p1; cases p1
      exact ⟨b, _, hat, g1, .ice g2 hrel, p4⟩
    · obtain ⟨n, o', p1, p2, p3, p4⟩ := r.live j o t hj
      exact ⟨n, o', p1, p2, p3.mono le, p4⟩
  · refine r.inj i j n hi hj ?_ ?_
    · rw [AH.get_put] at gi
      split at gi
      · rename_i e; rw [e, hk]; rfl
      · exact gi
    · rw [AH.get_put] at gj
      split at gj
      · rename_i e; rw [e, hk]; rfl
      · exact gj
  · simp only [Ren.still] at hd
    split at hd
    · rename_i en; subst en; cases hd
      refine ⟨cw, e, fz, g1, by omega, fun i hi => ?_⟩
      rw [hsz] at hi
      rw [Array.getElem?_extract, if_pos (by omega), Nat.zero_add]
    · exact r.frz n d hd
  · rw [AH.get_put] at hj
    split at hj
    · cases hj; rfl
    · rename_i ej
      simp only [Ren.still] at hf
      split at hf
      · rename_i en
        subst en
        exact absurd (r.inj j k n hn hat (by rw [hj]; rfl) (by rw [hk]; rfl)) ej
      · exact r.icy j o t n hj hn hf

/-- a slice is said to stay as it is -/
theorem Gh.slice {P : Program} {h : AH} {k off len cap z : Nat} {c : Array Value} {e : TypeId} {s : Option Nat} {l : List Value} (hk : h.get k = some (.cells c e (0, 0), s)) (hz : 0 < z) (hl : ∀ v ∈ l, v.cells.size = z)
    (hlen : l.length = len) (hc : len ≤ cap) (hf : ∀ (i : Nat) v, (flatC l)[i]? = some v → c[off + i]? = some v) (hn : off + len * z ≤ c.size) :
    Gh P h (.slice (some ⟨k, off, none⟩) len cap) (h.put k (some (.cells c e (0, 1), s))) (VSl l) := by
  intro E w u r rv
  have go : ∀ b cap', E.at_ k = some b → cap ≤ cap' → ∃ E', RW P E' (h.put k (some (.cells c e (0, 1), s))) w ∧ Ext E w E' w ∧ RV E' (VSl l) (.slice (some ⟨b, off, none⟩) len cap') := by
    intro b cap' hat hcap
    obtain ⟨c', h1, h2, h3, h4⟩ := rw_ice r hk hat
    refine ⟨_, h3, h4, ?_⟩
    have := RV.vs (E := E.still b c') (l := l) (b' := b) (off := off) (cap := cap') (s := z) (c := c') (by simp [Ren.still]) hz hl (by rw [hlen, h2]; exact hn) (by omega) fun i v v' hv hv' => h1 _ v v' (hf i v hv) hv'
    rw [hlen] at this
    exact this
  cases rv with
  | slice hat hs => exact go _ _ hat (Nat.le_refl _)
  | softSlice hat hs ho hcc hle => exact go _ _ hat hle
  | stub hs =>
    have : l = [] := List.eq_nil_of_length_eq_zero hlen
    subst this
    rename_i a' cap'
    obtain ⟨x, hx⟩ := Option.isSome_iff_exists.1 hs
    obtain ⟨b, hb⟩ := r.sdom k x hx
    obtain ⟨c', h1, h2, h3, h4⟩ := rw_ice r hk hb
    exact ⟨_, h3, h4, .vs0⟩

/-- an argument is said anew -/
theorem HC.gh {P : Program} {f : FuncId} {pre post : List Value} {v v' : Value} {h h' : AH} {Q : Res → AH → Prop} (g : Gh P h v h' v') (hh : HC P f (pre ++ v' :: post).toArray h' Q) : HC P f (pre ++ v :: post).toArray h Q := by
  intro E w args' r ra
  have hsz : args'.size = pre.length + (post.length + 1) := by rw [← ra.1]; simp
  have hv : RV E v (args'[pre.length]'(by omega)) := ra.2 pre.length v _ (by simp) (Array.getElem?_eq_getElem _)
  obtain ⟨E', r', x, rv'⟩ := g E w _ r hv
  have ra' : RA E' (pre ++ v' :: post).toArray args' := by
    refine ⟨by simp [hsz], fun i a b ha hb => ?_⟩
    by_cases e : i = pre.length
    · subst e
      simp at ha
      subst ha
      rw [Array.getElem?_eq_getElem (by omega)] at hb
      cases hb
      exact rv'
    · refine (ra.2 i a b ?_ hb).mono x.le
      simp only [List.getElem?_toArray] at ha ⊢
      rw [List.getElem?_append] at ha ⊢
      split
      · rename_i hlt; rw [if_pos hlt] at ha; exact ha
      · rename_i hge
        rw [if_neg hge] at ha
        obtain ⟨j, hj⟩ : ∃ j, i - pre.length = j + 1 := ⟨i - pre.length - 1, by omega⟩
        rw [hj] at ha ⊢
        simpa using ha
  exact (hh E' w args' r' ra').mono fun e w' ⟨E'', res, h'', q1, q2, q3, q4⟩ => ⟨E'', res, h'', q1, q2, x.trans q3, q4⟩

/-- an answer is said anew -/
theorem HC.ghRes {P : Program} {f : FuncId} {args : Array Value} {h : AH} {Q : Res → AH → Prop} (hh : HC P f args h fun r h₁ => ∃ v v' h₂, r = .ret v ∧ Gh P h₁ v h₂ v' ∧ Q (.ret v') h₂) : HC P f args h Q :=
  fun E w args' r ra => (hh E w args' r ra).mono fun e w' ⟨E', res, h₁, q1, q2, q3, v, v', h₂, e1, g, hq⟩ => by
    subst e1
    cases e with
    | returned u =>
      obtain ⟨E'', p1, p2, p3⟩ := g E' w' u q2 q1
      exact ⟨E'', .ret v', h₂, p3, p1, q3.trans p2, hq⟩
    | _ => cases q1

def Res.Below (n : Nat) : Res → Prop
  | .ret v => Ab.Below n v
  | .pan v => Ab.Below n v

/-- what a call made and nothing names any more is given up -/
theorem HC.tidy {P : Program} {f : FuncId} {args : Array Value} {h : AH} {Q : Res → AH → Prop}
    (hh : HC P f args h fun r h₁ => ∃ h₂, h₂.size = h.size ∧ (∀ k, k < h.size → ∀ y, h₂.get k = some y → h₁.get k = some y ∧ (BelowO h.size y.1 ∨ h.get k = some y)) ∧ (∀ k, h.size ≤ k → h₂.get k = none) ∧ r.Below h.size ∧ Q r h₂) :
    HC P f args h Q :=
  fun E w args' r ra => (hh E w args' r ra).mono fun e w' ⟨E', res, h₁, q1, q2, q3, h₂, e1, e2, e3, e4, hq⟩ => by
    obtain ⟨p1, p2⟩ := r.cut q2 q3 e1 fun k y hk => by
      by_cases hlt : k < h.size
      · exact ⟨hlt, e2 k hlt y hk⟩
      · rw [e3 k (by omega)] at hk; cases hk
    refine ⟨_, res, h₂, ?_, p1, p2, hq⟩
    cases res with
    | ret v =>
      cases e with
      | returned u => exact RV.cut q1 e4
      | _ => cases q1
    | pan v =>
      cases e with
      | panicked chain =>
        obtain ⟨u, hu, hv⟩ := q1
        exact ⟨u, hu, hv.cut e4⟩
      | _ => cases q1

/-- the same where the old heap is as it was -/
theorem HC.pure {P : Program} {f : FuncId} {args : Array Value} {h : AH} {Q : Res → AH → Prop}
    (hh : HC P f args h fun r h₁ => (∀ k y, h.get k = some y → h₁.get k = some y) ∧ r.Below h.size ∧ Q r h) : HC P f args h Q :=
  fun E w args' r ra => (hh E w args' r ra).mono fun e w' ⟨E', res, h₁, q1, q2, q3, e2, e4, hq⟩ => by
    obtain ⟨p1, p2⟩ := r.cut q2 q3 (h₂ := h) rfl fun k y hk => by
      obtain ⟨n, o', g1, _⟩ := r.live k y.1 y.2 hk
      exact ⟨(r.dom k n g1).1, e2 k y hk, .inr hk⟩
    refine ⟨_, res, h, ?_, p1, p2, hq⟩
    cases res with
    | ret v =>
      cases e with
      | returned u => exact RV.cut q1 e4
      | _ => cases q1
    | pan v =>
      cases e with
      | panicked chain =>
        obtain ⟨u, hu, hv⟩ := q1
        exact ⟨u, hu, hv.cut e4⟩
      | _ => cases q1

end Go.Ab

/- AbX -/
namespace Go.Ab
set_option linter.unusedVariables false

/-- a way into code -/
inductive Dir where
  | l | r | i

def cAt : Code → List Dir → Code
  | c, [] => c
  | .seq a _, .l :: p => cAt a p
  | .seq _ b, .r :: p => cAt b p
  | .cond _ a _, .l :: p => cAt a p
  | .cond _ _ b, .r :: p => cAt b p
  | .block _ a, .i :: p => cAt a p
  | .loop a, .i :: p => cAt a p
  | .scope a, .i :: p => cAt a p
  | c, _ => c

def ctxAt (P : Program) (L : Nat → Option (List Nat)) : Code → List Dir → (HX → AA → AH → Prop) → HX → AA → AH → Prop
  | _, [], Q => Q
  | .seq a b, .l :: p, Q => ctxAt P L a p (seqK (fun a h => wpC P L b (keepL L (rid b) a) h Q) Q)
  | .seq _ b, .r :: p, Q => ctxAt P L b p Q
  | .cond _ a _, .l :: p, Q => ctxAt P L a p Q
  | .cond _ _ b, .r :: p, Q => ctxAt P L b p Q
  | .block id a, .i :: p, Q => ctxAt P L a p (blockK id Q)
  | .loop c, .i :: p, Q => ctxAt P L c p (seqK (fun a h => HL P c (keepL L (rid c) a) h Q) Q)
  | .scope c, .i :: p, Q => ctxAt P L c p (scopeK (fun l a h => match findLabel c l with | some rest => HS P c rest (keepL L (rid rest) a) h Q | none => False) Q)
  | _, _, Q => Q

/-- just these temporaries are known -/
def mkA (n : Nat) : List (Nat × Value) → AA
  | [] => ⟨.leaf, n, none⟩
  | (t, v) :: l => ⟨(mkA n l).tm.put (t + 1) (t + 1) (some v), n, none⟩

/-- the same in a round of the loop k -/
def mkR (n k : Nat) (l : List (Nat × Value)) : AA := ⟨(mkA n l).tm, n, some k⟩

/-- the parts of a range over a function -/
def rbody : Code → Code
  | .rangeFunc _ _ _ y => y
  | c => c
def rasg : Code → Code
  | .rangeFunc _ _ x _ => x
  | c => c
def rps : Code → Array Tmp
  | .rangeFunc _ ps _ _ => ps
  | _ => #[]

/-- a round, by its code's own form -/
def roundW (P : Program) (L : Nat → Option (List Nat)) (r : Loop) (k : Nat) (args : List Value) (h : AH) (K : Value → AH → Prop) : Prop :=
  wpC P L r.assign (roundA r k args) h (seqK (fun a h => bq (loopAt h k) fun q => q.1.state = .ready ∧ wpC P L r.body a (h.put k (some (.loop { q.1 with state := .busy }, q.2))) (roundK k K)) fun _ _ _ => False)

theorem roundP_of {P : Program} {L : Nat → Option (List Nat)} {r : Loop} {k : Nat} {args : List Value} {h : AH} {K : Value → AH → Prop} {s : Option Nat} (hl : loopAt h k = some (r, s)) (hlen : args.length = r.params.size)
    (hh : roundW P L r k args h K) : roundP P k args h K := by
  unfold roundP
  rw [hl]
  refine ⟨hlen, fun B ro E w x rw rx => wpIn_mono (wpC_ok _ hh B ro E w x rw rx) fun e y w' hp => hp.mono fun e a h hq => ?_⟩
  cases e with
  | normal =>
    obtain ⟨q, h1, h2, h3⟩ := bq_eq hq
    exact bq_of h1 ⟨h2, wpC_ok _ h3⟩
  | _ => exact hq

theorem condP_bool (b : Bool) (A B : Prop) : condP (some (.bool b)) A B = if b then A else B := rfl
@[simp] theorem condP_true (A B : Prop) : condP (some (.bool true)) A B = A := rfl
@[simp] theorem condP_false (A B : Prop) : condP (some (.bool false)) A B = B := rfl
@[simp] theorem guardQ_true (h : AH) (op : (Value → AH → Prop) → Prop) (k : Value → AH → Prop) : guardQ (.bool true) true h op k = op k := propext (guardQ_iff.trans (by simp [guardI]))
@[simp] theorem guardQ_false (h : AH) (op : (Value → AH → Prop) → Prop) (k : Value → AH → Prop) : guardQ (.bool false) true h op k = k undef h := propext (guardQ_iff.trans (by simp [guardI]))
@[simp] theorem guardQ_true' (h : AH) (op : (Value → AH → Prop) → Prop) (k : Value → AH → Prop) : guardQ (.bool true) false h op k = k undef h := propext (guardQ_iff.trans (by simp [guardI]))
@[simp] theorem guardQ_false' (h : AH) (op : (Value → AH → Prop) → Prop) (k : Value → AH → Prop) : guardQ (.bool false) false h op k = op k := propext (guardQ_iff.trans (by simp [guardI]))

end Go.Ab

/- AbStep -/
namespace Go.Ab
set_option linter.unusedVariables false

def ld1 (h : AH) (v : Value) : Option Value := match v with
  | .pointer (some a) => (opCells h a 1).bind (·[0]?)
  | .func (.yield 1) _ d => d[0]?
  | _ => none
def ldN (n : Nat) (h : AH) (v : Value) : Option Value := match v with
  | .pointer (some a) => (opCells h a n).map .agg
  | .func (.yield 1) _ d => if n ≤ d.size then some (.agg (d.extract 0 n)) else none
  | _ => none
def stN (n : Nat) (h : AH) (addr val : Value) : Option AH := match addr with
  | .pointer (some a) => if val.cells.size = n then opSetCells h a val.cells else none
  | _ => none
def bdF : Array Value → List (Nat × Nat × Value) → Option (Array Value)
  | cells, [] => some cells
  | cells, (off, size, v) :: rest => if v.cells.size ≠ size || off + v.cells.size > cells.size then none else bdF (setFrom cells off v.cells.toList) rest
def bd (z : Array Value) (parts : List (Nat × Nat × Value)) : Option Value := match bdF z parts with
  | some c => some (.agg c)
  | none => none
def bs (e : TypeId) (z : Array Value) (n : Nat) (h : AH) (parts : List (Nat × Nat × Value)) : Option (Value × AH) := match bdF z parts with
  | some c => some (.slice (some ⟨h.size, 0, none⟩) n n, h.push (.cells c e (0, 0)) none)
  | none => none
def fd1 (off : Nat) (v : Value) : Option Value := match v with
  | .agg cs => cs[off]?
  | _ => none
def fdN (off n : Nat) (v : Value) : Option Value := match v with
  | .agg cs => some (.agg (cs.extract off (off + n)))
  | _ => none
def fa (off n : Nat) (v : Value) : Option Value := match v with
  | .pointer (some a) => if a.spot.isSome then none else some (.pointer (some (a.add off)))
  | .func (.yield 1) _ d => if off + n ≤ d.size then some (FPv (d.extract off (off + n))) else none
  | _ => none
/-- the address of an element of a slice -/
def ia (n : Nat) (x ix : Value) : Option Value := match ix with
  | .int k i => match x with
    | .slice (some a) len _ => if a.spot.isSome then none else if 0 ≤ i ∧ i < len then some (.pointer (some (a.add (i.toNat * n)))) else none
    | .func (.yield 0) _ l => if 0 ≤ i then match l[i.toNat]? with
        | some v => if v.cells.size = n then some (FPv v.cells) else none
        | none => none
        else none
    | _ => none
  | _ => none
/-- of an array that an address is of -/
def iaA (len n : Nat) (x ix : Value) : Option Value := match ix with
  | .int k i => match x with
    | .pointer (some a) => if a.spot.isSome then none else if 0 ≤ i ∧ i < len then some (.pointer (some (a.add (i.toNat * n)))) else none
    | .func (.yield 1) _ c => if 0 ≤ i ∧ i < len ∧ i.toNat * n + n ≤ c.size then some (FPv (c.extract (i.toNat * n) (i.toNat * n + n))) else none
    | _ => none
  | _ => none
def ixS (x ix : Value) : Option Value := match ix with
  | .int k i => match x with
    | .string s => if 0 ≤ i ∧ i.toNat < s.size then some (.int .u8 s[i.toNat]!.toNat) else none
    | _ => none
  | _ => none
def lenL (x : Value) : Option Value := match x with
  | .slice _ n _ => some (goInt n)
  | .func (.yield 0) _ l => some (goInt l.size)
  | _ => none
def lenS (x : Value) : Option Value := match x with
  | .string s => some (goInt s.size)
  | _ => none
def lenM (h : AH) (x : Value) : Option Value := match x with
  | .map none => some (goInt 0)
  | .map (some r) => match h.get r with
    | some (.map es _, _) => some (goInt es.size)
    | _ => none
  | _ => none
def mi (t : TypeId) (x : Value) : Option Value := some (.iface t x)

def apT (e : TypeId) (size bytes : Nat) (zero : Option Value) (h : AH) (s x : Value) : Option (Value × AH) :=
  match lenOf? x with
  | some n => match opFirst h size n x, s with
    | some new, .slice base sLen sCap =>
      if new.size = n * size then
      if sLen + n ≤ sCap then
        match base with
        | none => some (.slice none (sLen + n) sCap, h)
        | some a => if n * size = 0 then some (.slice base (sLen + n) sCap, h) else
          if a.spot.isSome then none else match opSetCells h (a.add (sLen * size)) new with
          | some h' => some (.slice base (sLen + n) sCap, h')
          | none => none
      else if 0 < size ∧ 0 < bytes ∧ bytes < 2 ^ 30 ∧ (sLen + n) * bytes < 2 ^ 40 ∧ (zero.any fun z => z.cells.size = size) then
        match opFirst h size sLen s with
        | some old => if old.size = sLen * size then match base with
          | none => some (.slice (some ⟨h.size, 0, none⟩) (sLen + n) (sLen + n), h.push (.cells (old ++ new) e (0, 0)) (some size))
          | some a => match h.get a.block with
            | some (_, none) => some (.slice (some ⟨h.size, 0, none⟩) (sLen + n) (sLen + n), h.push (.cells (old ++ new) e (0, 0)) (some size))
            | some (.cells _ e' fz, some z) => if fz = (0, 0) ∧ z = size ∧ e' = e ∧ a.off = 0 ∧ a.spot = none ∧ 0 < sCap ∧ new.toList.all Value.oneCell' then
                some (.slice (some ⟨h.size, 0, none⟩) (sLen + n) (sLen + n), (h.put a.block none).push (.cells (old ++ new) e (0, 0)) (some size))
                else none
            | _ => none
          else none
        | none => none
      else none
      else none
    | _, _ => none
  | _ => none

/-- a walk over a map begins -/
def rngE (h : AH) (m : Nat) : Option (Obj × Option Nat) → Option (Value × AH)
  | some (.map _ clock, _) => some (.pointer (some ⟨h.size, 0, none⟩), h.push (.mapIter (some m) clock #[] clock) none)
  | _ => none
end Go.Ab

/- AbLem -/
namespace Go.Ab
set_option linter.unusedVariables false
set_option linter.unusedSimpArgs false

@[congr] theorem bq_congr {α : Type} {o o' : Option α} {k : α → Prop} (e : o = o') : bq o k = bq o' k := by rw [e]
@[congr] theorem condP_congr {o o' : Option Value} {A B : Prop} (e : o = o') : condP o A B = condP o' A B := by rw [e]
@[congr] theorem guardQ_congr {x x' : Value} {w : Bool} {h : AH} {op : (Value → AH → Prop) → Prop} {k : Value → AH → Prop} (e : x = x') : guardQ x w h op k = guardQ x' w h op k := by rw [e]
@[congr] theorem HC_congr {P : Program} {f : FuncId} {args args' : Array Value} {h : AH} {Q : Res → AH → Prop} (e : args = args') : HC P f args h Q = HC P f args' h Q := by rw [e]
@[congr] theorem exP_congr {P : Program} {f : FuncId} {args args' : Array Value} {h : AH} {k : Value → AH → Prop} (e : args = args') : exP P f args h k = exP P f args' h k := by rw [e]
@[congr] theorem callP_congr {P : Program} {f f' : Value} {args : List Value} {h : AH} {k pk : Value → AH → Prop} (e : f = f') : callP P f args h k pk = callP P f' args h k pk := by rw [e]
@[congr] theorem callX_congr {P : Program} {f f' : Value} {args : List Value} {h : AH} {k : Value → AH → Prop} (e : f = f') : callX P f args h k = callX P f' args h k := by rw [e]
@[congr] theorem invokeP_congr {P : Program} {f f' : Value} {n : String} {args : List Value} {h : AH} {k pk : Value → AH → Prop} (e : f = f') : invokeP P f n args h k pk = invokeP P f' n args h k pk := by rw [e]
@[congr] theorem invokeX_congr {P : Program} {f f' : Value} {n : String} {args : List Value} {h : AH} {k : Value → AH → Prop} (e : f = f') : invokeX P f n args h k = invokeX P f' n args h k := by rw [e]
@[congr] theorem nextP_congr {P : Program} {it it' : Value} {b : Bool} {h : AH} {k : Value → AH → Prop} (e : it = it') : nextP P h it b k = nextP P h it' b k := by rw [e]

theorem condP_ite {p : Prop} [Decidable p] {A B : Prop} (ha : p → A) (hb : ¬p → B) : condP (some (.bool (decide p))) A B := by
  by_cases h : p
  · simpa [h] using ha h
  · simpa [h] using hb h
theorem condP_iff {b : Bool} {A B : Prop} (ha : b = true → A) (hb : b = false → B) : condP (some (.bool b)) A B := by
  cases b
  · exact hb rfl
  · exact ha rfl

/-! the heap -/
theorem get_push_eq {h : AH} {o : Obj} {s : Option Nat} {j : Nat} (e : j = h.size) : (h.push o s).get j = some (o, s) := by rw [AH.get_push, if_pos e]
theorem get_push_ne {h : AH} {o : Obj} {s : Option Nat} {j : Nat} (e : j ≠ h.size) : (h.push o s).get j = h.get j := by rw [AH.get_push, if_neg e]
theorem get_put_eq {h : AH} {k : Nat} {v : Option (Obj × Option Nat)} {j : Nat} (e : j = k) : (h.put k v).get j = v := by rw [AH.get_put, if_pos e]
theorem get_put_ne {h : AH} {k : Nat} {v : Option (Obj × Option Nat)} {j : Nat} (e : j ≠ k) : (h.put k v).get j = h.get j := by rw [AH.get_put, if_neg e]

theorem get_push_e {h : AH} {o : Obj} {s : Option Nat} {j : Nat} (e : (j == h.size) = true) : (h.push o s).get j = some (o, s) := get_push_eq (by simpa using e)
theorem get_put_e {h : AH} {k : Nat} {v : Option (Obj × Option Nat)} {j : Nat} (e : (j == k) = true) : (h.put k v).get j = v := get_put_eq (by simpa using e)

theorem sz_push {h : AH} {o : Obj} {s : Option Nat} : (h.push o s).size = h.size + 1 := by rw [AH.size_push]
theorem sz_put {h : AH} {k : Nat} {v : Option (Obj × Option Nat)} : (h.put k v).size = h.size := by rw [AH.size_put]

def rowC : Option (Obj × Option Nat) → Option (Array Value)
  | some (.cells c _ _, _) => some c
  | _ => none
theorem rowC_cells {c : Array Value} {e : TypeId} {fz : Nat × Nat} {s : Option Nat} : rowC (some (.cells c e fz, s)) = some c := rfl

def setC (h : AH) (k off : Nat) (vs : Array Value) : Option (Obj × Option Nat) → Option AH
  | some (.cells c e fz, s) => if fz = (0, 0) ∧ off + vs.size ≤ c.size ∧ vs.toList.all Value.oneCell' = true then some (h.put k (some (.cells (setFrom c off vs.toList) e (0, 0), s))) else none
  | _ => none
theorem setC_cells {h : AH} {k off : Nat} {vs c : Array Value} {e : TypeId} {s : Option Nat} (h1 : off + vs.size ≤ c.size) (h2 : vs.toList.all Value.oneCell' = true) :
    setC h k off vs (some (.cells c e (0, 0), s)) = some (h.put k (some (.cells (setFrom c off vs.toList) e (0, 0), s))) := by
  show (if (0, 0) = ((0, 0) : Nat × Nat) ∧ off + vs.size ≤ c.size ∧ vs.toList.all Value.oneCell' = true then _ else none) = _
  rw [if_pos ⟨rfl, h1, h2⟩]

theorem ld1_ptr {h : AH} {k off : Nat} : ld1 h (.pointer (some ⟨k, off, none⟩)) = (rowC (h.get k)).bind fun c => c[off]? := by
  unfold ld1 opCells
  simp only [Option.isSome_none, Bool.false_eq_true, if_false]
  generalize h.get k = g
  rcases g with _ | ⟨o, s⟩
  · rfl
  · cases o with
    | cells c e fz =>
      show Option.bind (if off + 1 ≤ c.size then some (c.extract off (off + 1)) else none) _ = c[off]?
      by_cases hle : off + 1 ≤ c.size
      · rw [if_pos hle]
        show (c.extract off (off + 1))[0]? = _
        rw [Array.getElem?_extract, if_pos (by omega), Nat.add_zero]
      · rw [if_neg hle, Array.getElem?_eq_none (by omega)]; rfl
    | _ => rfl
theorem ld1_fp {h : AH} {d : Array Value} : ld1 h (FPv d) = d[0]? := rfl
theorem ldN_ptr {n : Nat} {h : AH} {k off : Nat} : ldN n h (.pointer (some ⟨k, off, none⟩)) = (rowC (h.get k)).bind fun c => if off + n ≤ c.size then some (.agg (c.extract off (off + n))) else none := by
  unfold ldN opCells
  simp only [Option.isSome_none, Bool.false_eq_true, if_false]
  generalize h.get k = g
  rcases g with _ | ⟨o, s⟩
  · rfl
  · cases o with
    | cells c e fz =>
      show Option.map _ (if off + n ≤ c.size then some (c.extract off (off + n)) else none) = if off + n ≤ c.size then _ else none
      by_cases hle : off + n ≤ c.size
      · rw [if_pos hle, if_pos hle]; rfl
      · rw [if_neg hle, if_neg hle]; rfl
    | _ => rfl
theorem ldN_fp {n : Nat} {h : AH} {d : Array Value} : ldN n h (FPv d) = if n ≤ d.size then some (.agg (d.extract 0 n)) else none := rfl
theorem stN_ptr {n : Nat} {h : AH} {k off : Nat} {v : Value} : stN n h (.pointer (some ⟨k, off, none⟩)) v = if v.cells.size = n then setC h k off v.cells (h.get k) else none := by
  unfold stN opSetCells
  simp only [Option.isSome_none, Bool.false_eq_true, if_false]
  congr 1
theorem fa_ptr {off n k o : Nat} : fa off n (.pointer (some ⟨k, o, none⟩)) = some (.pointer (some ⟨k, o + off, none⟩)) := by
  simp only [fa, Option.isSome_none, Bool.false_eq_true, if_false, add_off]
theorem fa_fp {off n : Nat} {d : Array Value} : fa off n (FPv d) = if off + n ≤ d.size then some (FPv (d.extract off (off + n))) else none := rfl
theorem fd1_agg {off : Nat} {c : Array Value} : fd1 off (.agg c) = c[off]? := rfl
theorem fdN_agg {off n : Nat} {c : Array Value} : fdN off n (.agg c) = some (.agg (c.extract off (off + n))) := rfl
theorem ia_vs {n : Nat} {l : List Value} {k : IntKind} {i : Int} : ia n (VSl l) (.int k i) = if 0 ≤ i then (l[i.toNat]?).bind (fun v => if v.cells.size = n then some (FPv v.cells) else none) else none := by
  show (if 0 ≤ i then (match l.toArray[i.toNat]? with | some v => if v.cells.size = n then some (FPv v.cells) else none | none => none) else none) = _
  rw [List.getElem?_toArray]
  split
  · cases l[i.toNat]? <;> rfl
  · rfl
theorem ia_sl {n b o len cap : Nat} {k : IntKind} {i : Int} : ia n (.slice (some ⟨b, o, none⟩) len cap) (.int k i) = if 0 ≤ i ∧ i < len then some (.pointer (some ⟨b, o + i.toNat * n, none⟩)) else none := by
  simp only [ia, Option.isSome_none, Bool.false_eq_true, if_false, add_off]
theorem iaA_ptr {len n b o : Nat} {k : IntKind} {i : Int} : iaA len n (.pointer (some ⟨b, o, none⟩)) (.int k i) = if 0 ≤ i ∧ i < len then some (.pointer (some ⟨b, o + i.toNat * n, none⟩)) else none := by
  simp only [iaA, Option.isSome_none, Bool.false_eq_true, if_false, add_off]
theorem iaA_fp {len n : Nat} {c : Array Value} {k : IntKind} {i : Int} : iaA len n (FPv c) (.int k i) = if 0 ≤ i ∧ i < len ∧ i.toNat * n + n ≤ c.size then some (FPv (c.extract (i.toNat * n) (i.toNat * n + n))) else none := rfl
theorem lenL_vs {l : List Value} : lenL (VSl l) = some (.int .i64 l.length) := by
  show some (goInt l.toArray.size) = _
  rw [List.size_toArray]; rfl
theorem lenL_sl {a : Option Addr} {n c : Nat} : lenL (.slice a n c) = some (.int .i64 n) := rfl
theorem lenS_s {s : ByteArray} : lenS (.string s) = some (.int .i64 s.size) := rfl
theorem lenM_nil {h : AH} : lenM h (.map none) = some (.int .i64 0) := rfl
def lenE : Option (Obj × Option Nat) → Option Value
  | some (.map es _, _) => some (.int .i64 es.size)
  | _ => none
theorem lenE_map {es : Array MapEntry} {t : Nat} {s : Option Nat} : lenE (some (.map es t, s)) = some (.int .i64 es.size) := rfl
theorem lenM_map {h : AH} {r : Nat} : lenM h (.map (some r)) = lenE (h.get r) := by
  unfold lenM
  simp only
  generalize h.get r = g
  rcases g with _ | ⟨o, s⟩
  · rfl
  · cases o <;> rfl
theorem rngE_map {h : AH} {m : Nat} {es : Array MapEntry} {t : Nat} {s : Option Nat} : rngE h m (some (.map es t, s)) = some (.pointer (some ⟨h.size, 0, none⟩), h.push (.mapIter (some m) t #[] t) none) := rfl
theorem opExtract_tuple {c : Array Value} {i : Nat} : opExtract (.tuple c) i = c[i]? := rfl
theorem nilV_ptr {a : Addr} : nilV (.pointer (some a)) = some (.pointer (some a)) := rfl
theorem nilV_iface {t : TypeId} {v : Value} : nilV (.iface t v) = some (.iface t v) := rfl
theorem nilV_func {f : FuncId} {a b : Array Value} : nilV (.func (.func f) a b) = some (.func (.func f) a b) := rfl
theorem nilV_fp {c : Array Value} : nilV (FPv c) = some (FPv c) := rfl
theorem pickV_bool {b : Bool} {x y : Value} : pickV (.bool b) x y = some (if b then x else y) := rfl
theorem cells_agg {c : Array Value} : (Value.agg c).cells = c := rfl
theorem cells_int {k : IntKind} {n : Int} : (Value.int k n).cells = #[.int k n] := rfl
theorem cells_bool {b : Bool} : (Value.bool b).cells = #[.bool b] := rfl
theorem cells_string {s : ByteArray} : (Value.string s).cells = #[.string s] := rfl
theorem cells_pointer {a : Option Addr} : (Value.pointer a).cells = #[.pointer a] := rfl
theorem cells_slice {a : Option Addr} {n c : Nat} : (Value.slice a n c).cells = #[.slice a n c] := rfl
theorem cells_map {r : Option Nat} : (Value.map r).cells = #[.map r] := rfl
theorem cells_iface {t : TypeId} {v : Value} : (Value.iface t v).cells = #[.iface t v] := rfl
theorem cells_nilIface : (Value.nilIface).cells = #[.nilIface] := rfl
theorem cells_func {f : Fn} {a b : Array Value} : (Value.func f a b).cells = #[.func f a b] := rfl
theorem cells_float {k : FloatKind} {b : Nat} : (Value.float k b).cells = #[.float k b] := rfl
theorem cells_complex {k : FloatKind} {a b : Nat} : (Value.complex k a b).cells = #[.complex k a b] := rfl
theorem cells_vs {l : List Value} : (VSl l).cells = #[VSl l] := rfl
theorem cells_fp {c : Array Value} : (FPv c).cells = #[FPv c] := rfl
theorem one_int {k : IntKind} {n : Int} : (Value.int k n).oneCell' = true := rfl
theorem one_bool {b : Bool} : (Value.bool b).oneCell' = true := rfl
theorem one_string {s : ByteArray} : (Value.string s).oneCell' = true := rfl
theorem one_pointer {a : Option Addr} : (Value.pointer a).oneCell' = true := rfl
theorem one_slice {a : Option Addr} {n c : Nat} : (Value.slice a n c).oneCell' = true := rfl
theorem one_map {r : Option Nat} : (Value.map r).oneCell' = true := rfl
theorem one_iface {t : TypeId} {v : Value} : (Value.iface t v).oneCell' = true := rfl
theorem one_nilIface : (Value.nilIface).oneCell' = true := rfl
theorem one_func {f : Fn} {a b : Array Value} : (Value.func f a b).oneCell' = true := rfl
theorem one_float {k : FloatKind} {b : Nat} : (Value.float k b).oneCell' = true := rfl
theorem one_complex {k : FloatKind} {a b : Nat} : (Value.complex k a b).oneCell' = true := rfl
theorem one_vs {l : List Value} : (VSl l).oneCell' = true := rfl
theorem one_fp {c : Array Value} : (FPv c).oneCell' = true := rfl
theorem setFrom_nil {c : Array Value} {k : Nat} : setFrom c k [] = c := rfl
theorem setFrom_cons {c : Array Value} {k : Nat} {v : Value} {l : List Value} : setFrom c k (v :: l) = setFrom (c.setIfInBounds k v) (k + 1) l := rfl
theorem bd_eq {z : Array Value} {l : List (Nat × Nat × Value)} : bd z l = (bdF z l).map .agg := by unfold bd; cases bdF z l <;> rfl
theorem bdF_nil {z : Array Value} : bdF z [] = some z := rfl
theorem bdF_cons {z : Array Value} {off n : Nat} {v : Value} {l : List (Nat × Nat × Value)} (h1 : v.cells.size = n) (h2 : off + n ≤ z.size) : bdF z ((off, n, v) :: l) = bdF (setFrom z off v.cells.toList) l := by
  show (if (v.cells.size ≠ n || off + v.cells.size > z.size) = true then none else bdF (setFrom z off v.cells.toList) l) = _
  rw [if_neg]
  intro hh
  simp only [h1, ne_eq, not_true_eq_false, decide_false, Bool.false_or, decide_eq_true_eq] at hh
  omega
theorem bs_eq {e : TypeId} {z : Array Value} {n : Nat} {h : AH} {l : List (Nat × Nat × Value)} : bs e z n h l = (bdF z l).map fun c => (.slice (some ⟨h.size, 0, none⟩) n n, h.push (.cells c e (0, 0)) none) := by unfold bs; cases bdF z l <;> rfl
theorem new1 {h : AH} {e : TypeId} {c : Array Value} : (opNew h e c).1 = .pointer (some ⟨h.size, 0, none⟩) := rfl
theorem new2 {h : AH} {e : TypeId} {c : Array Value} : (opNew h e c).2 = h.push (.cells c e (0, 0)) none := rfl
theorem mm1 {h : AH} : (opMakeMap h).1 = .map (some h.size) := rfl
theorem mm2 {h : AH} : (opMakeMap h).2 = h.push (.map #[] 0) none := rfl
theorem wrap64 {x : Int} (h1 : -9223372036854775808 ≤ x) (h2 : x ≤ 9223372036854775807) : IntKind.i64.wrap x = x := IntWalk.i64_in x ⟨h1, h2⟩
theorem callX_func {P : Program} {f : FuncId} {a b : Array Value} {args : List Value} {h : AH} {k : Value → AH → Prop} (hb : hasBody P f = true) :
    callX P (.func (.func f) a b) args h k = exP P f (a.toList ++ args ++ b.toList).toArray h k := by
  unfold hasBody at hb
  show enterX P f _ h k = _
  unfold enterX
  split at hb
  · rename_i fn hf
    simp only [Bool.and_eq_true, Bool.not_eq_true'] at hb
    try rw [hf]
    simp only [hb.1, Bool.false_eq_true, if_false]
    rw [if_neg (by cases hq : fn.body with | none => rw [hq] at hb; cases hb.2 | some _ => simp)]
  · cases hb
theorem callP_func {P : Program} {f : FuncId} {a b : Array Value} {args : List Value} {h : AH} {k pk : Value → AH → Prop} (hb : hasBody P f = true) :
    callP P (.func (.func f) a b) args h k pk = HC P f (a.toList ++ args ++ b.toList).toArray h (resK k pk) := by
  unfold hasBody at hb
  show enterP P f _ h k pk = _
  unfold enterP
  split at hb
  · rename_i fn hf
    simp only [Bool.and_eq_true, Bool.not_eq_true'] at hb
    try rw [hf]
    simp only [hb.1, Bool.false_eq_true, if_false]
    rw [if_neg (by cases hq : fn.body with | none => rw [hq] at hb; cases hb.2 | some _ => simp)]
  · cases hb
theorem exP_of {P : Program} {f : FuncId} {args : Array Value} {h h' : AH} {v : Value} {k : Value → AH → Prop} (a : Ex P f args h v h') (hk : k v h') : exP P f args h k := ⟨v, h', a, hk⟩

/-! slices that grow -/

/-- a slice that no other value shares, and its elements -/
inductive Hld (e z : Nat) (h : AH) (lo : Nat) : Value → List Value → Prop
  | nil : Hld e z h lo (.slice none 0 0) []
  | row {k : Nat} {c : Array Value} {l : List Value} (hk : lo ≤ k) (hg : h.get k = some (.cells c e (0, 0), some z)) (hc : c = (flatC l).toArray) (hp : 0 < l.length) : Hld e z h lo (.slice (some ⟨k, 0, none⟩) l.length l.length) l

def blkOf : Value → Option Nat
  | .slice (some a) _ _ => some a.block
  | .pointer (some a) => some a.block
  | .map (some r) => some r
  | _ => none

/-- what is old stays -/
structure Kp (lo : Nat) (h h' : AH) : Prop where
  size : h.size ≤ h'.size
  get : ∀ k, k < lo → h'.get k = h.get k

theorem Kp.refl (lo : Nat) (h : AH) : Kp lo h h := ⟨Nat.le_refl _, fun _ _ => rfl⟩
theorem Kp.trans {lo : Nat} {a b c : AH} (x : Kp lo a b) (y : Kp lo b c) : Kp lo a c := ⟨Nat.le_trans x.size y.size, fun k hk => (y.get k hk).trans (x.get k hk)⟩
theorem Kp.push {lo : Nat} {h h' : AH} (x : Kp lo h h') (o : Obj) (s : Option Nat) (hl : lo ≤ h'.size) : Kp lo h (h'.push o s) :=
  ⟨Nat.le_trans x.size (by simp), fun k hk => by rw [get_push_ne (by omega)]; exact x.get k hk⟩
theorem Kp.put {lo : Nat} {h h' : AH} (x : Kp lo h h') (j : Nat) (v : Option (Obj × Option Nat)) (hl : lo ≤ j) : Kp lo h (h'.put j v) :=
  ⟨x.size, fun k hk => by rw [get_put_ne (by omega)]; exact x.get k hk⟩
theorem Kp.less {lo lo' : Nat} {h h' : AH} (x : Kp lo h h') (hl : lo' ≤ lo) : Kp lo' h h' := ⟨x.size, fun k hk => x.get k (by omega)⟩

theorem Hld.mono {e z : Nat} {h h' : AH} {lo : Nat} {s : Value} {l : List Value} (o : Hld e z h lo s l) (hg : ∀ k, blkOf s = some k → h'.get k = h.get k) : Hld e z h' lo s l := by
  cases o with
  | nil => exact .nil
  | row hk h1 hc hp => exact .row hk ((hg _ rfl).trans h1) hc hp
theorem Hld.lo {e z : Nat} {h : AH} {lo lo' : Nat} {s : Value} {l : List Value} (o : Hld e z h lo s l) (hl : lo' ≤ lo) : Hld e z h lo' s l := by
  cases o with
  | nil => exact .nil
  | row hk h1 hc hp => exact .row (Nat.le_trans hl hk) h1 hc hp
theorem Hld.len {e z : Nat} {h : AH} {lo : Nat} {s : Value} {l : List Value} (o : Hld e z h lo s l) : lenL s = some (.int .i64 l.length) := by
  cases o <;> rfl

/-- what is appended -/
def Src (h : AH) (z : Nat) (x : Value) (m : List Value) : Prop := lenOf? x = some m.length ∧ opFirst h z m.length x = some (flatC m).toArray

theorem Src.vs {h : AH} {z : Nat} {m : List Value} (hz : ∀ v ∈ m, v.cells.size = z) (hp : 0 < z) : Src h z (VSl m) m := by
  refine ⟨by show some m.toArray.size = _; simp, ?_⟩
  show (if m.length * z = 0 then some #[] else if (m.toArray[0]?).all (·.cells.size = z) ∧ m.length ≤ m.toArray.size then some (flatC (m.toArray.toList.take m.length)).toArray else none) = _
  cases m with
  | nil => simp [flatC]
  | cons a m =>
    rw [if_neg (Nat.mul_ne_zero (by simp) (by omega)), if_pos]
    · simp
    · simp [hz a (by simp)]
theorem Src.nil {h : AH} {z n c : Nat} : Src h z (.slice none 0 c) [] := ⟨rfl, by simp [opFirst, flatC]⟩
theorem Src.row {h : AH} {z k off cap : Nat} {c : Array Value} {e : TypeId} {fz : Nat × Nat} {s : Option Nat} {m : List Value} (hg : h.get k = some (.cells c e fz, s)) (hz : ∀ v ∈ m, v.cells.size = z) (hc : off + m.length * z ≤ c.size) (hm : c.extract off (off + m.length * z) = (flatC m).toArray) :
    Src h z (.slice (some ⟨k, off, none⟩) m.length cap) m := by
  refine ⟨rfl, ?_⟩
  show (if m.length * z = 0 then some #[] else opCells h ⟨k, off, none⟩ (m.length * z)) = _
  split
  · rename_i h0
    have : (flatC m).length = 0 := by rw [flatC_length hz]; exact h0
    rw [List.eq_nil_of_length_eq_zero this]
  · unfold opCells
    simp only [Option.isSome_none, Bool.false_eq_true, if_false, hg]
    rw [if_pos hc, hm]

theorem Hld.src {e z : Nat} {h : AH} {lo : Nat} {s : Value} {l : List Value} (o : Hld e z h lo s l) (hz : ∀ v ∈ l, v.cells.size = z) : Src h z s l := by
  cases o with
  | nil => exact Src.nil (n := 0)
  | row hk h1 hc hp =>
    have hl := flatC_length hz
    refine Src.row h1 hz ?_ ?_
    · rw [hc]; simp [hl]
    · rw [hc, Nat.zero_add, ← hl]; simp

theorem Hld.append {e z bytes lo : Nat} {zero : Value} {h : AH} {s x : Value} {l m : List Value} (o : Hld e z h lo s l) (hx : Src h z x m) (hlo : lo ≤ h.size) (hl : ∀ v ∈ l, v.cells.size = z) (hm : ∀ v ∈ m, v.cells.size = z) (hone : ∀ v ∈ flatC m, v.oneCell' = true)
    (hz : 0 < z) (hb : 0 < bytes) (hb' : bytes < 1073741824) (hzero : zero.cells.size = z) (hs : (l.length + m.length) * bytes < 1099511627776) :
    ∃ s' h', apT e z bytes (some zero) h s x = some (s', h') ∧ Hld e z h' lo s' (l ++ m) ∧ h.size ≤ h'.size ∧ (∀ k, k < h.size → blkOf s ≠ some k → h'.get k = h.get k) ∧ (blkOf s' = blkOf s ∨ ∃ k, blkOf s' = some k ∧ h.size ≤ k ∧ k < h'.size) := by
  have hlm := flatC_length hm
  have hll := flatC_length hl
  obtain ⟨h1, h2⟩ := hx
  have hfm : (flatC m).toArray.size = m.length * z := by simp [hlm]
  have hcat : flatC (l ++ m) = flatC l ++ flatC m := by simp [flatC]
  cases o with
  | nil =>
    unfold apT
    simp only [h1, h2, hfm, if_true, Nat.zero_add]
    by_cases h0 : m = []
    · subst h0
      refine ⟨.slice none 0 0, h, by simp, .nil, Nat.le_refl _, fun _ _ _ => rfl, .inl rfl⟩
    · have hp : 0 < m.length := List.length_pos_iff.2 h0
      rw [if_neg (by omega), if_pos ⟨hz, hb, by simpa using hb', by simpa using hs, by simpa using hzero⟩]
      refine ⟨_, _, ?_, Hld.row (k := h.size) (l := m) hlo (get_push_eq rfl) rfl hp, by simp, fun k hk _ => get_push_ne (by omega), .inr ⟨h.size, rfl, Nat.le_refl _, by simp⟩⟩
      simp [opFirst]
  | row hk hg hc hp =>
    rename_i k c
    unfold apT
    simp only [h1, h2, hfm, if_true]
    by_cases h0 : m = []
    · subst h0
      refine ⟨.slice (some ⟨k, 0, none⟩) l.length l.length, h, by simp, by simpa using Hld.row hk hg hc hp, Nat.le_refl _, fun _ _ _ => rfl, .inl rfl⟩
    · have hpm : 0 < m.length := List.length_pos_iff.2 h0
      have hsrc := (Hld.src (Hld.row (lo := lo) hk hg hc hp) hl).2
      rw [if_neg (by omega), if_pos ⟨hz, hb, by simpa using hb', by simpa using hs, by simpa using hzero⟩, hsrc]
      have hfl : (flatC l).toArray.size = l.length * z := by simp [hll]
      simp only [hfl, if_true, hg]
      rw [if_pos ⟨trivial, trivial, trivial, trivial, trivial, hp, by simpa using hone⟩]
      refine ⟨_, _, rfl, ?_, by simp, fun j hj hne => ?_, .inr ⟨h.size, rfl, Nat.le_refl _, by simp⟩⟩
      · have := Hld.row (e := e) (z := z) (h := (h.put k none).push (.cells ((flatC l).toArray ++ (flatC m).toArray) e (0, 0)) (some z)) (lo := lo) (k := h.size) (l := l ++ m) hlo (get_push_eq rfl) (by rw [hcat]; simp) (by simp; omega)
        simpa using this
      · rw [get_push_ne (by simp; omega), get_put_ne (fun e => hne (by rw [e]; rfl))]

theorem Hld.key {e z : Nat} {h : AH} {lo : Nat} {s : Value} {l : List Value} (o : Hld e z h lo s l) : ∀ k, blkOf s = some k → lo ≤ k := by
  intro k hk
  cases o with
  | nil => cases hk
  | row h1 _ _ _ => injection hk with hk; subst hk; exact h1

/-- one element is appended -/
theorem Hld.append1 {e z bytes lo : Nat} {zero v : Value} {h : AH} {s : Value} {l : List Value} {c : Array Value} (o : Hld e z h lo s l) (hc : v.cells = c) (hs2 : ∀ k, blkOf s = some k → k < h.size) (hlo : lo ≤ h.size) (hl : ∀ v ∈ l, v.cells.size = z)
    (hv : c.size = z) (hone : ∀ x ∈ c.toList, x.oneCell' = true) (hz : 0 < z) (hb : 0 < bytes) (hb' : bytes < 1073741824) (hzero : zero.cells.size = z) (hs : (l.length + 1) * bytes < 1099511627776) :
    ∃ s' h', apT e z bytes (some zero) (h.push (.cells c e (0, 0)) none) s (.slice (some ⟨h.size, 0, none⟩) 1 1) = some (s', h') ∧ Hld e z h' lo s' (l ++ [v]) ∧ h.size ≤ h'.size ∧ (∀ k, k < h.size → blkOf s ≠ some k → h'.get k = h.get k) ∧
      (blkOf s' = blkOf s ∨ ∃ k, blkOf s' = some k ∧ h.size ≤ k ∧ k < h'.size) := by
  subst hc
  have hfl : flatC [v] = v.cells.toList := by simp [flatC]
  have hx : Src (h.push (.cells v.cells e (0, 0)) none) z (.slice (some ⟨h.size, 0, none⟩) 1 1) [v] := by
    refine Src.row (m := [v]) (get_push_eq rfl) (fun x hx => by rw [List.mem_singleton.1 hx]; exact hv) (by simp [hv]) ?_
    rw [hfl]; simp [hv]
  have o' : Hld e z (h.push (.cells v.cells e (0, 0)) none) lo s l := o.mono fun k hk => get_push_ne (by have := hs2 k hk; omega)
  obtain ⟨s', h', a1, a2, a3, a4, a5⟩ := o'.append hx (by simp; omega) hl (fun x hx => by rw [List.mem_singleton.1 hx]; exact hv) (fun x hx => hone x (by rw [hfl] at hx; exact hx)) hz hb hb' hzero hs
  simp only [AH.size_push] at a3 a4 a5
  refine ⟨s', h', a1, a2, by omega, fun k hk hne => (a4 k (by omega) hne).trans (get_push_ne (by omega)), ?_⟩
  rcases a5 with e | ⟨k, e, h1, h2⟩
  · exact .inl e
  · exact .inr ⟨k, e, by omega, h2⟩

/-- a slice is given back, frozen; all else is given up -/
theorem Hld.freeze {P : Program} {e z lo : Nat} {h : AH} {s : Value} {l : List Value} (o : Hld e z h lo s l) (hz : 0 < z) (hl : ∀ v ∈ l, v.cells.size = z) :
    (s = .slice none 0 0 ∧ l = []) ∨ ∃ h₂, Gh P h s h₂ (VSl l) ∧ (∀ k, k < lo → h₂.get k = h.get k) ∧ h₂.size = h.size := by
  cases o with
  | nil => exact .inl ⟨rfl, rfl⟩
  | row hk hg hc hp =>
    rename_i k c
    refine .inr ⟨_, Gh.slice (l := l) hg hz hl rfl (Nat.le_refl _) (fun i v hv => ?_) ?_, fun j hj => get_put_ne (by omega), rfl⟩
    · rw [hc]; simpa using hv
    · rw [hc]; simp [flatC_length hl]

theorem plain_int {n : Nat} {k : IntKind} {x : Int} : plainN (n + 1) (.int k x) = true := rfl
theorem plain_bool {n : Nat} {b : Bool} : plainN (n + 1) (.bool b) = true := rfl
theorem plain_string {n : Nat} {s : ByteArray} : plainN (n + 1) (.string s) = true := rfl
theorem plain_float {n : Nat} {k : FloatKind} {b : Nat} : plainN (n + 1) (.float k b) = true := rfl
theorem plain_complex {n : Nat} {k : FloatKind} {a b : Nat} : plainN (n + 1) (.complex k a b) = true := rfl

/-! contracts of functions that leave the heap as it was -/

theorem Below.of_plain {n : Nat} : ∀ {d : Nat} {v : Value}, plainN d v = true → Below n v := by
  intro d
  induction d with
  | zero => intro v h; cases h
  | succ d ih =>
    intro v h
    cases v with
    | bool b => exact .bool b
    | int k n => exact .int k n
    | float k b => exact .float k b
    | complex k a b => exact .complex k a b
    | string s => exact .string s
    | pointer a => cases a with
      | none => exact .nilPtr
      | some a => cases h
    | slice a l c => cases a with
      | none => exact .nilSlice l c
      | some a => cases h
    | map r => cases r with
      | none => exact .nilMap
      | some a => cases h
    | chan r => cases r with
      | none => exact .nilChan
      | some a => cases h
    | func fn f c =>
      cases fn with
      | func fn =>
        simp only [plainN, Bool.and_eq_true, List.all_eq_true] at h
        exact .func fn (fun v hv => ih (h.1 v hv)) (fun v hv => ih (h.2 v hv))
      | _ => cases h
    | nilFunc => exact .nilFunc
    | iface t v => exact .iface t (ih h)
    | nilIface => exact .nilIface
    | agg c => simp only [plainN, List.all_eq_true] at h; exact .agg fun v hv => ih (h v hv)
    | tuple c => simp only [plainN, List.all_eq_true] at h; exact .tuple fun v hv => ih (h v hv)

theorem HC.pureF {P : Program} {f : FuncId} {args : Array Value} {h : AH} {Q : Res → AH → Prop}
    (hh : HC P f args h fun r h₁ => Kp h.size h h₁ ∧ r.Below h.size ∧ Q r h) : HC P f args h Q :=
  fun E w args' r ra => (hh E w args' r ra).mono fun e w' ⟨E', res, h₁, q1, q2, q3, e2, e4, hq⟩ => by
    obtain ⟨p1, p2⟩ := r.cut q2 q3 (h₂ := h) rfl fun k y hk => by
      obtain ⟨n, o', g1, _⟩ := r.live k y.1 y.2 hk
      have hlt := (r.dom k n g1).1
      exact ⟨hlt, by rw [e2.get k hlt]; exact hk, .inr hk⟩
    refine ⟨_, res, h, ?_, p1, p2, hq⟩
    cases res with
    | ret v =>
      cases e with
      | returned u => exact RV.cut q1 e4
      | _ => cases q1
    | pan v =>
      cases e with
      | panicked chain =>
        obtain ⟨u, hu, hv⟩ := q1
        exact ⟨u, hu, hv.cut e4⟩
      | _ => cases q1

/-- a function that gives a value back and leaves the heap as it was -/
theorem Ex.pureF {P : Program} {f : FuncId} {args : Array Value} {h : AH} {v : Value} (hb : Below h.size v) (hh : HC P f args h fun r h₁ => r = .ret v ∧ Kp h.size h h₁) : Ex P f args h v h :=
  HC.pureF (hh.mono fun r h₁ ⟨a, b⟩ => ⟨b, by rw [a]; exact hb, a, rfl⟩)

/-- a slice as a list: the empty one is nil -/
def slV : List Value → Value
  | [] => .slice none 0 0
  | l => VSl l

theorem lenL_slV {l : List Value} : lenL (slV l) = some (.int .i64 l.length) := by
  cases l with
  | nil => rfl
  | cons a l => exact lenL_vs
theorem slV_of {l : List Value} (h : l ≠ []) : slV l = VSl l := by
  cases l with
  | nil => exact absurd rfl h
  | cons a l => rfl
theorem Src.slV {h : AH} {z : Nat} {m : List Value} (hz : ∀ v ∈ m, v.cells.size = z) (hp : 0 < z) : Src h z (slV m) m := by
  cases m with
  | nil => exact Src.nil (n := 0)
  | cons a m => exact Src.vs hz hp

/-- a slice that stays as it is, and its elements -/
inductive Sl : Value → List Value → Prop
  | nil : Sl (.slice none 0 0) []
  | vs (l : List Value) : Sl (VSl l) l

theorem Sl.of (l : List Value) : Sl (slV l) l := by
  cases l with
  | nil => exact .nil
  | cons a l => exact .vs _
theorem Sl.len {v : Value} {l : List Value} (h : Sl v l) : lenL v = some (.int .i64 l.length) := by
  cases h with
  | nil => rfl
  | vs => exact lenL_vs
theorem Sl.ia {v : Value} {l : List Value} (h : Sl v l) (n : Nat) (k : IntKind) (i : Int) : Ab.ia n v (.int k i) = if 0 ≤ i then (l[i.toNat]?).bind (fun v => if v.cells.size = n then some (FPv v.cells) else none) else none := by
  cases h with
  | nil => simp [Ab.ia]
  | vs => exact ia_vs
theorem Sl.src {v : Value} {l : List Value} (s : Sl v l) (h : AH) {z : Nat} (hz : ∀ v ∈ l, v.cells.size = z) (hp : 0 < z) : Src h z v l := by
  cases s with
  | nil => exact Src.nil (n := 0)
  | vs => exact Src.vs hz hp

theorem drop_cons {α : Type} {l r : List α} {a : α} {i : Nat} (h : l.drop i = a :: r) : l[i]? = some a ∧ l.drop (i + 1) = r ∧ i < l.length := by
  have h1 : l[i]? = some a := by rw [← List.head?_drop, h]; rfl
  refine ⟨h1, ?_, (List.getElem?_eq_some_iff.1 h1).1⟩
  rw [← List.drop_drop, h]; rfl
theorem drop_nil {α : Type} {l : List α} {i : Nat} (h : l.drop i = []) : l.length ≤ i := by simpa using h

/-- a function that gives a new slice back and leaves the heap as it was -/
theorem Ex.own {P : Program} {f : FuncId} {args : Array Value} {h : AH} {e z : Nat} {l : List Value} (hz : 0 < z) (hl : ∀ v ∈ l, v.cells.size = z) (hb : ∀ v ∈ flatC l, Below h.size v)
    (hh : HC P f args h fun r h₁ => ∃ s, r = .ret s ∧ Hld e z h₁ h.size s l ∧ Kp h.size h h₁) : Ex P f args h (slV l) h := by
  refine HC.pureF (HC.ghRes (hh.mono fun r h₁ ⟨s, e1, o, fr⟩ => ?_))
  rcases o.freeze (P := P) hz hl with ⟨rfl, rfl⟩ | ⟨h₂, g, q1, q2⟩
  · exact ⟨_, _, h₁, e1, .refl P h₁ _, fr, .nilSlice 0 0, rfl, rfl⟩
  · cases l with
    | nil => cases o with
      | nil => exact ⟨_, _, h₁, e1, .refl P h₁ _, fr, .nilSlice 0 0, rfl, rfl⟩
      | row _ _ _ hp => exact absurd hp (by simp)
    | cons a l => exact ⟨_, _, h₂, e1, g, ⟨by rw [q2]; exact fr.size, fun k hk => by rw [q1 k hk]; exact fr.get k hk⟩, .vs fun v hv => hb v (by simpa using hv), rfl, rfl⟩

/-- nothing but the package-level variables and what stays as it is -/
def Ren.base (P : Program) (E : Ren) : Ren := ⟨fun k => if k < P.globals.size then some k else none, fun _ => none, E.fro⟩
theorem Ren.base_at {P : Program} {E : Ren} {k n : Nat} (hk : (E.base P).at_ k = some n) : k < P.globals.size ∧ n = k := by
  simp only [Ren.base] at hk
  split at hk
  · cases hk; exact ⟨by assumption, rfl⟩
  · cases hk
theorem RW.base {P : Program} {E : Ren} {h : AH} {w : World} (r : RW P E h w) : RW P (E.base P) (AH.bare P) w where
  glob g hg := by simp only [Ren.base]; rw [if_pos hg]
  dom k n hk := by obtain ⟨h1, rfl⟩ := Ren.base_at hk; exact ⟨h1, (r.dom _ _ (r.glob _ h1)).2⟩
  sdom k x hk := by cases hk
  live k o s hk := by simp [AH.bare, AH.get, T.get] at hk
  inj j k n _ _ gj _ := by simp [AH.bare, AH.get, T.get] at gj
  frz := r.frz
  icy k o s n hk := by simp [AH.bare, AH.get, T.get] at hk
  sep := ⟨fun _ _ => rfl, fun k n hk _ => (Ren.base_at hk).2.symm⟩

/-- what is so of a call where nothing but the package-level variables is there is so wherever nothing is known of these -/
theorem Ex.frame0 {P : Program} {f : FuncId} {args : Array Value} {h g : AH} {v : Value} {d : Nat} (hh : Ex P f args (AH.bare P) v g) (ha : args.toList.all (plainN d) = true) (hv : plainN d v = true)
    (hno : ∀ k, k < P.globals.size → h.get k = none) : Ex P f args h v h := by
  intro E w args' r ra
  have e : args' = args := by
    apply Array.ext ra.1.symm
    intro i h1 h2
    exact RV.eq_of_plain (List.all_eq_true.1 ha _ (Array.getElem_mem_toList _)) (ra.2 i _ _ (Array.getElem?_eq_getElem h2) (Array.getElem?_eq_getElem h1))
  subst e
  have raF : RA (E.base P) args' args' := RA.of_plain fun v hv => RV.of_plain (List.all_eq_true.1 ha v hv)
  refine (hh _ w args' r.base raF).mono fun e w' ⟨E', res, h', q1, q2, q3, e2, e3⟩ => ?_
  subst e2
  cases e with
  | returned u =>
    have hu : u = v := RV.eq_of_plain hv q1
    subst hu
    have fr : ∀ k n, k < h.size → E.at_ k = some n → (h.get k).isSome = true → w'.heap[n]? = w.heap[n]? := fun k n _ hk hs => by
      refine q3.frame n (r.dom k n hk).2 fun j hj => ?_
      obtain ⟨hlt, rfl⟩ := Ren.base_at hj
      have := r.sep.2 k n hk hlt
      rw [this, hno n hlt] at hs; cases hs
    refine ⟨E, .ret u, h, RV.of_plain hv, ⟨r.glob, fun k n hk => ⟨(r.dom k n hk).1, Nat.lt_of_lt_of_le (r.dom k n hk).2 q3.size⟩, r.sdom, fun k o s hk => ?_, r.inj, fun b c hb => ?_, r.icy, r.sep⟩,
      ⟨.refl E, fun k n hk => .inl ⟨k, hk⟩, q3.size, fun n hn hj => q3.frame n hn fun j hj' => ?_, q3.os, q3.output, q3.tape, q3.drawn, fun b hb => q3.ice b hb⟩, rfl, rfl⟩
    · obtain ⟨n, o', g1, g2, g3, g4⟩ := r.live k o s hk
      exact ⟨n, o', g1, by rw [fr k n (r.dom k n g1).1 g1 (by rw [hk]; rfl)]; exact g2, g3, g4⟩
    · obtain ⟨cw, e, fz, g1, g2, g3⟩ := r.frz b c hb
      exact ⟨cw, e, fz, by rw [q3.ice b (by show (E.fro b).isSome = true; rw [hb]; rfl)]; exact g1, g2, g3⟩
    · obtain ⟨hlt, rfl⟩ := Ren.base_at hj'
      exact hj _ (r.glob _ hlt)
  | _ => cases q1

end Go.Ab

/- AbWalk -/
namespace Go.Ab
set_option linter.unusedVariables false

/-- a walk over the map m, whose entries are es, has come to vs -/
structure Walk (h : AH) (r m : Nat) (es : Array MapEntry) (vs : List MapEntry) : Prop where
  at_ : ∃ so since sm clock, h.get r = some (.mapIter (some m) since (vs.map (·.born)).toArray clock, so) ∧ h.get m = some (.map es clock, sm) ∧ (∀ e ∈ es.toList, e.born < since) ∧ (∀ e ∈ es.toList, e.born < clock)
  nodup : (es.toList.map (·.born)).Nodup
  sub : ∀ e ∈ vs, e ∈ es.toList
  vnodup : (vs.map (·.born)).Nodup

theorem Walk.start {h : AH} {m : Nat} {es : Array MapEntry} {clock : Nat} {sm : Option Nat} (hm : h.get m = some (.map es clock, sm)) (hlt : m < h.size) (hc : ∀ e ∈ es.toList, e.born < clock) (hn : (es.toList.map (·.born)).Nodup) :
    Walk (h.push (.mapIter (some m) clock #[] clock) none) h.size m es [] :=
  ⟨⟨none, clock, sm, clock, get_push_eq rfl, by rw [get_push_ne (by omega)]; exact hm, hc, hc⟩, hn, fun e he => by (cases he), List.nodup_nil⟩

theorem Walk.mono {h h' : AH} {r m : Nat} {es : Array MapEntry} {vs : List MapEntry} (w : Walk h r m es vs) (h1 : h'.get r = h.get r) (h2 : h'.get m = h.get m) : Walk h' r m es vs := by
  obtain ⟨⟨so, since, sm, clock, g1, g2, g3, g4⟩, a, b, c⟩ := w
  exact ⟨⟨so, since, sm, clock, h1.trans g1, h2.trans g2, g3, g4⟩, a, b, c⟩

theorem map_inj {α β : Type} {f : α → β} {l : List α} (hn : (l.map f).Nodup) {a b : α} (ha : a ∈ l) (hb : b ∈ l) (he : f a = f b) : a = b := by
  induction l with
  | nil => cases ha
  | cons x l ih =>
    simp only [List.map_cons, List.nodup_cons] at hn
    rcases List.mem_cons.1 ha with rfl | ha'
    · rcases List.mem_cons.1 hb with rfl | hb'
      · rfl
      · exact absurd (he ▸ List.mem_map_of_mem hb') hn.1
    · rcases List.mem_cons.1 hb with rfl | hb'
      · exact absurd (he.symm ▸ List.mem_map_of_mem ha') hn.1
      · exact ih hn.2 ha' hb'

theorem nodup_of_map {α β : Type} {f : α → β} {l : List α} (hn : (l.map f).Nodup) : l.Nodup := by
  induction l with
  | nil => exact List.nodup_nil
  | cons x l ih =>
    simp only [List.map_cons, List.nodup_cons] at hn
    exact List.nodup_cons.2 ⟨fun hx => hn.1 (List.mem_map_of_mem hx), ih hn.2⟩

theorem born_inj {l : List MapEntry} (hn : (l.map (·.born)).Nodup) {a b : MapEntry} (ha : a ∈ l) (hb : b ∈ l) (he : a.born = b.born) : a = b := by
  induction l with
  | nil => cases ha
  | cons x l ih =>
    simp only [List.map_cons, List.nodup_cons] at hn
    rcases List.mem_cons.1 ha with rfl | ha'
    · rcases List.mem_cons.1 hb with rfl | hb'
      · rfl
      · exact absurd (he ▸ List.mem_map_of_mem hb') hn.1
    · rcases List.mem_cons.1 hb with rfl | hb'
      · exact absurd (he.symm ▸ List.mem_map_of_mem ha') hn.1
      · exact ih hn.2 ha' hb'

theorem nodup_of_born {l : List MapEntry} (hn : (l.map (·.born)).Nodup) : l.Nodup := by
  induction l with
  | nil => exact List.nodup_nil
  | cons x l ih =>
    simp only [List.map_cons, List.nodup_cons] at hn
    exact List.nodup_cons.2 ⟨fun hx => hn.1 (List.mem_map_of_mem hx), ih hn.2⟩

theorem perm_of_nodup {α : Type} : ∀ {l m : List α}, l.Nodup → m.Nodup → (∀ a, a ∈ l ↔ a ∈ m) → l.Perm m := by
  intro l
  induction l with
  | nil =>
    intro m _ _ h
    cases m with
    | nil => exact .nil
    | cons x m => exact absurd ((h x).2 (by simp)) (by simp)
  | cons x l ih =>
    intro m hl hm h
    have hx : x ∈ m := (h x).1 (by simp)
    obtain ⟨a, b, rfl⟩ := List.append_of_mem hx
    have hl' := List.nodup_cons.1 hl
    have hm' : x ∉ a ++ b ∧ (a ++ b).Nodup := by
      have := (List.perm_middle (a := x) (l₁ := a) (l₂ := b)).nodup_iff.1 hm
      exact List.nodup_cons.1 this
    refine .trans (.cons x (ih hl'.2 hm'.2 fun y => ?_)) List.perm_middle.symm
    constructor
    · intro hy
      have : y ∈ a ++ x :: b := (h y).1 (List.mem_cons_of_mem _ hy)
      simp only [List.mem_append, List.mem_cons] at this ⊢
      rcases this with h1 | rfl | h1
      · exact .inl h1
      · exact absurd hy hl'.1
      · exact .inr h1
    · intro hy
      have : y ∈ x :: l := (h y).2 (by
        simp only [List.mem_append, List.mem_cons] at hy ⊢
        rcases hy with h1 | h1
        · exact .inl h1
        · exact .inr (.inr h1))
      rcases List.mem_cons.1 this with rfl | h1
      · exact absurd hy hm'.1
      · exact h1

theorem Walk.over {h : AH} {r m : Nat} {es : Array MapEntry} {vs : List MapEntry} (w : Walk h r m es vs) (ha : ∀ e ∈ es.toList, e.born ∈ vs.map (·.born)) : vs.Perm es.toList := by
  refine perm_of_nodup (nodup_of_born w.vnodup) (nodup_of_born w.nodup) fun e => ⟨w.sub e, fun he => ?_⟩
  obtain ⟨v, hv, e1⟩ := List.mem_map.1 (ha e he)
  rw [← born_inj w.nodup (w.sub v hv) he e1]
  exact hv

theorem Walk.length {h : AH} {r m : Nat} {es : Array MapEntry} {vs : List MapEntry} (w : Walk h r m es vs) : vs.length ≤ es.size := by
  have : ∀ (l m : List MapEntry), l.Nodup → (∀ a ∈ l, a ∈ m) → l.length ≤ m.length := by
    intro l
    induction l with
    | nil => intro m _ _; simp
    | cons x l ih =>
      intro m hl h
      obtain ⟨a, b, rfl⟩ := List.append_of_mem (h x (by simp))
      have hl' := List.nodup_cons.1 hl
      have := ih (a ++ b) hl'.2 fun y hy => by
        have h1 := h y (List.mem_cons_of_mem _ hy)
        simp only [List.mem_append, List.mem_cons] at h1 ⊢
        rcases h1 with h1 | rfl | h1
        · exact .inl h1
        · exact absurd hy hl'.1
        · exact .inr h1
      simp only [List.length_append, List.length_cons] at this ⊢
      omega
  simpa using this vs es.toList (nodup_of_born w.vnodup) w.sub

/-- one step of the walk -/
theorem Walk.next {P : Program} {h : AH} {r m : Nat} {es : Array MapEntry} {vs : List MapEntry} {k : Value → AH → Prop} (w : Walk h r m es vs) (hne : r ≠ m)
    (hover : vs.Perm es.toList → k overV h)
    (hstep : ∀ e h', e ∈ es.toList → (∀ x ∈ vs, x.born ≠ e.born) → h'.size = h.size → (∀ j, j ≠ r → h'.get j = h.get j) → Walk h' r m es (vs ++ [e]) → k (.tuple #[.bool true, e.key, e.val]) h') :
    nextP P h (.pointer (some ⟨r, 0, none⟩)) false k := by
  obtain ⟨⟨so, since, sm, clock, g1, g2, g3, g4⟩, a, b, c⟩ := w
  unfold nextP
  simp only [g1, g2, true_and]
  refine ⟨?_, fun ho => hover (Walk.over ⟨⟨so, since, sm, clock, g1, g2, g3, g4⟩, a, b, c⟩ fun e he => ?_), fun e he hs => ?_⟩
  · rw [Bool.and_eq_false_iff]
    by_cases hz : es.isEmpty = true
    · left; simp [hz]
    · right
      rw [Bool.eq_false_iff]
      intro hall
      rw [Array.all_eq_true] at hall
      have hpos : 0 < es.size := by
        cases hs : es.size with
        | zero => exact absurd (by simp [Array.isEmpty, hs]) hz
        | succ n => omega
      have h1 := hall 0 hpos
      have h2 := g4 es[0] (by simp)
      simp only [ge_iff_le, decide_eq_true_eq] at h1
      omega
  · apply Classical.byContradiction
    intro hn
    have := ho e he (by
      rw [Bool.eq_false_iff]
      intro hc
      exact hn (by simpa using hc))
    have := g3 e he
    omega
  · have hv : ∀ x ∈ vs, x.born ≠ e.born := by
      intro x hx heq
      rw [Bool.eq_false_iff] at hs
      exact hs (by simpa using ⟨x, hx, heq⟩)
    refine hstep e _ he hv rfl (fun j hj => get_put_ne hj) ⟨⟨so, since, sm, clock, ?_, ?_, g3, g4⟩, a, ?_, ?_⟩
    · rw [get_put_eq rfl]; simp
    · rw [get_put_ne (fun e => hne e.symm)]; exact g2
    · intro x hx
      rcases List.mem_append.1 hx with h1 | h1
      · exact b x h1
      · rw [List.mem_singleton.1 h1]; exact he
    · rw [List.map_append, List.nodup_append]
      refine ⟨c, by simp, fun x hx y hy => ?_⟩
      obtain ⟨z, hz, rfl⟩ := List.mem_map.1 hx
      simp only [List.map_cons, List.map_nil, List.mem_singleton] at hy
      rw [hy]; exact hv z hz

theorem Walk.entry {h : AH} {r m : Nat} {es : Array MapEntry} {vs : List MapEntry} {e : MapEntry} (w : Walk h r m es (vs ++ [e])) : opEntry h (.pointer (some ⟨r, 0, none⟩)) = some (.tuple #[e.key, e.val]) := by
  obtain ⟨⟨so, since, sm, clock, g1, g2, g3, g4⟩, a, b, c⟩ := w
  unfold opEntry
  have hb : ((List.map (fun x => x.born) (vs ++ [e])).toArray).back? = some e.born := by simp
  simp only [g1, g2, hb, bne_self_eq_false, Bool.false_eq_true, if_false]
  have he : e ∈ es.toList := b e (by simp)
  have : es.find? (fun x => x.born == e.born) = some e := by
    rw [← Array.find?_toList]
    cases hf : es.toList.find? (fun x => x.born == e.born) with
    | none => exact absurd (List.find?_eq_none.1 hf e he) (by simp)
    | some y =>
      have h1 := List.mem_of_find?_eq_some hf
      have h2 := List.find?_some hf
      rw [born_inj a h1 he (by simpa using h2)]
  rw [this]

end Go.Ab

/- AbSort -/
namespace Go.Ab
set_option linter.unusedVariables false
set_option linter.unusedSimpArgs false

theorem putCells_eq {α : Type} [Inhabited α] (enc : α → Value) (off : Nat) (d : List α) (c : Array Value) : Sort.putCells enc off d.toArray c = setFrom c off (d.map enc) := by
  apply Array.ext_getElem?
  intro i
  rw [setFrom_get]
  simp only [Sort.putCells, Array.getElem?_mapIdx, List.length_map, List.size_toArray]
  by_cases h : i < c.size
  · rw [Array.getElem?_eq_getElem h]
    simp only [Option.map_some, h, and_true]
    split
    · rename_i e
      have hlt : i - off < d.length := by omega
      rw [List.getElem?_map, List.getElem?_eq_getElem hlt]
      simp [hlt]
    · rfl
  · rw [Array.getElem?_eq_none (by omega), if_neg (by omega)]
    rfl

/-- objects beside the abstract heap -/
theorem RW.besideAll {P : Program} {E : Ren} {h : AH} : ∀ (l : List Obj) {w : World}, RW P E h w → RW P E h (Sort.grow w l.toArray) ∧ Ext E w E (Sort.grow w l.toArray) := by
  intro l
  induction l with
  | nil => intro w r; simpa using ⟨r, Ext.refl E w⟩
  | cons o l ih =>
    intro w r
    obtain ⟨r1, x1⟩ := r.beside o
    obtain ⟨r2, x2⟩ := ih r1
    have e : Sort.grow w (o :: l).toArray = Sort.grow (w.alloc o) l.toArray := by
      rw [Sort.alloc_eq_grow, Sort.grow_grow]
      simp
    rw [e]
    exact ⟨r2, x1.trans x2⟩

/-- a row of plain cells is laid anew -/
theorem RW.putRow {P : Program} {E : Ren} {h : AH} {w : World} (r : RW P E h w) {α : Type} [Inhabited α] (enc : α → Value) (hp : ∀ x, ∃ n, plainN n (enc x) = true) {k b off : Nat} {c : Array Value} {e : TypeId} {s : Option Nat} (hk : h.get k = some (.cells c e (0, 0), s)) (hat : E.at_ k = some b)
    (d : List α) (hn : off + d.length ≤ c.size) (m : Nat) (os : Array Obj) :
    RW P E (h.put k (some (.cells (setFrom c off (d.map enc)) e (0, 0), s))) (Sort.grow (Sort.putRow enc (Sort.ahead w m) b off d.toArray) os) ∧
    Ext E w E (Sort.grow (Sort.putRow enc (Sort.ahead w m) b off d.toArray) os) := by
  have ra : RW P E h (Sort.ahead w m) := r.of_heap rfl
  have xa : Ext E w E (Sort.ahead w m) := (Ext.refl E _).of_heap rfl rfl rfl rfl (by simp [Sort.ahead])
  obtain ⟨n, o', h1, h2, h3, h4⟩ := ra.live _ _ _ hk
  rw [hat] at h1; cases h1
  obtain ⟨c', fz', g1, g2, g3, g4⟩ := ra.cells hk hat
  rw [h2] at g1; cases g1
  have hv : RA E (d.map enc).toArray (d.map enc).toArray := ⟨rfl, fun i v v' a b => by
    rw [a] at b; cases b
    simp only [List.getElem?_toArray, List.getElem?_map, Option.map_eq_some_iff] at a
    obtain ⟨x, _, rfl⟩ := a
    obtain ⟨n, hn⟩ := hp x
    exact RV.of_plain hn⟩
  have g2' : off + (d.map enc).toArray.size ≤ c.size := by simpa using hn
  have ho : RO E (E.soft k) (.cells (setFrom c off (d.map enc)) e (0, 0)) (.cells (setFrom c' off (d.map enc)) e fz') := by
    have hrel := setFrom_rel off hv g2 g3
    cases h3 with
    | hard hs hh => exact .hard hs ⟨by rw [setFrom_size, setFrom_size]; exact hh.1, by simpa using hrel⟩
    | soft hs hz hn' hle hf hh => exact .soft hs hz (by rw [setFrom_size]; exact hn') (by rw [setFrom_size, setFrom_size]; exact hle) (by rw [setFrom_size]; exact hf) (by simpa using hrel)
  obtain ⟨q1, q2⟩ := ra.put hk rfl hat ho
  have ew : Sort.putRow enc (Sort.ahead w m) b off d.toArray = { Sort.ahead w m with heap := (Sort.ahead w m).heap.setIfInBounds b (.cells (setFrom c' off (d.map enc)) e fz') } := by
    unfold Sort.putRow Sort.mapBlock
    congr 1
    apply Array.ext_getElem?
    intro i
    rw [Array.getElem?_modify, Array.getElem?_setIfInBounds]
    by_cases e : b = i
    · subst e
      rw [if_pos rfl, if_pos rfl, h2, if_pos (Array.getElem?_eq_some_iff.1 h2).1]
      simp only [Option.map_some, Sort.onCells, putCells_eq]
    · rw [if_neg e, if_neg e]
  rw [← ew] at q1 q2
  obtain ⟨r3, x3⟩ := q1.besideAll os.toList
  simp only [Array.toArray_toList] at r3 x3
  exact ⟨r3, xa.trans (q2.trans x3)⟩

/-- a row of plain cells lies in the world -/
theorem RW.holds {P : Program} {E : Ren} {h : AH} {w : World} (r : RW P E h w) {α : Type} [Inhabited α] (enc : α → Value) (hp : ∀ x, ∃ n, plainN n (enc x) = true) {k b off : Nat} {c : Array Value} {e : TypeId} {s : Option Nat} (hk : h.get k = some (.cells c e (0, 0), s)) (hat : E.at_ k = some b)
    (d : List α) (hc : ∀ (i : Nat) x, d[i]? = some x → c[off + i]? = some (enc x)) : Sort.Holds enc w b off d.toArray := by
  obtain ⟨c', fz', g1, g2, g3, g4⟩ := r.cells hk hat
  intro j hj
  have hj' : j < d.length := by simpa using hj
  have h1 := hc j d[j] (List.getElem?_eq_getElem hj')
  have hlt := (Array.getElem?_eq_some_iff.1 h1).1
  have hlt' : off + j < c'.size := by omega
  have h2 := g3 (off + j) _ _ h1 (Array.getElem?_eq_getElem hlt')
  obtain ⟨n, hn⟩ := hp d[j]
  have h3 := RV.eq_of_plain hn h2
  have e1 : (d.toArray)[j]! = d[j] := by simp [hj']
  have hnf := g4 rfl (off + j) hlt'
  constructor
  · simp only [World.cell?, g1]
    rw [e1]
    simp [Array.getElem?_eq_getElem hlt', h3]
  · simp only [World.frozen?, g1]
    simp
    omega

/-- the sort of integers -/
theorem HC.sortInts {P : Program} {f : Nat} (hs : ∀ (blk off cap : Nat) (zs : List Int) (w : World), Sort.Holds (Value.int .i64) w blk off zs.toArray → blk < w.heap.size → zs.length < 4611686018427387904 →
      Calls P f #[.slice (some ⟨blk, off, none⟩) zs.length cap] w fun e w' => e = .returned (.tuple #[]) ∧ ∃ n os, w' = Sort.grow (Sort.putRow (Value.int .i64) (Sort.ahead w n) blk off (zs.mergeSort fun x y => decide (x ≤ y)).toArray) os)
    {h : AH} {k off len cap : Nat} {c : Array Value} {e : TypeId} {s : Option Nat} (hk : h.get k = some (.cells c e (0, 0), s)) (zs : List Int) (hc : ∀ (i : Nat) x, zs[i]? = some x → c[off + i]? = some (.int .i64 x)) (hl : zs.length = len) (h0 : 0 < len) (hsz : len < 4611686018427387904) :
    HC P f #[.slice (some ⟨k, off, none⟩) len cap] h fun r g => r = .ret (.tuple #[]) ∧ g = h.put k (some (.cells (setFrom c off ((zs.mergeSort fun x y => decide (x ≤ y)).map (Value.int .i64))) e (0, 0), s)) := by
  subst hl
  intro E w args' r ra
  have hp : ∀ x : Int, ∃ n, plainN n (Value.int .i64 x) = true := fun x => ⟨1, rfl⟩
  have hlen : off + (zs.mergeSort fun x y => decide (x ≤ y)).length ≤ c.size := by
    rw [List.length_mergeSort]
    have := (Array.getElem?_eq_some_iff.1 (hc (zs.length - 1) zs[zs.length - 1] (List.getElem?_eq_getElem (by omega)))).1
    omega
  have key : ∀ b cap', E.at_ k = some b → args' = #[.slice (some ⟨b, off, none⟩) zs.length cap'] →
      Calls P f args' w fun e2 w' => ∃ E' r h', Res.rel E' r e2 ∧ RW P E' h' w' ∧ Ext E w E' w' ∧ (r = .ret (.tuple #[]) ∧ h' = h.put k (some (.cells (setFrom c off ((zs.mergeSort fun x y => decide (x ≤ y)).map (Value.int .i64))) e (0, 0), s))) := by
    intro b cap' hat ea
    subst ea
    refine (hs b off cap' zs w (r.holds _ hp hk hat zs hc) (r.dom k b hat).2 hsz).mono ?_
    rintro e3 w' ⟨rfl, m, os, rfl⟩
    obtain ⟨q1, q2⟩ := r.putRow (Value.int .i64) hp hk hat _ hlen m os
    exact ⟨E, .ret (.tuple #[]), _, .tuple rfl fun i v v' h _ => by simp at h, q1, q2, rfl, rfl⟩
  obtain ⟨v, e1, hv⟩ := one_of ra
  subst e1
  generalize hz : zs.length = z at hv key h0
  cases hv with
  | slice hat _ => exact key _ _ hat rfl
  | softSlice hat _ _ _ _ => exact key _ _ hat rfl
  | stub _ => exact absurd h0 (Nat.lt_irrefl 0)

theorem setFrom_all {c : Array Value} {l : List Value} (hl : l.length = c.size) : setFrom c 0 l = l.toArray := by
  apply Array.ext_getElem?
  intro i
  rw [setFrom_get]
  by_cases h : i < c.size
  · rw [if_pos (by omega)]; simp
  · rw [if_neg (by omega), Array.getElem?_eq_none (by omega), Array.getElem?_eq_none (by simp; omega)]

theorem flatC_ints' (l : List Int) : flatC (l.map (Value.int .i64)) = l.map (Value.int .i64) := by
  induction l with
  | nil => rfl
  | cons a l ih => show [Value.int .i64 a] ++ flatC (l.map (Value.int .i64)) = _; rw [ih]; rfl

/-- the sort of a slice of one's own -/
theorem HC.sortHld {P : Program} {f : Nat} (hs : ∀ (blk off cap : Nat) (zs : List Int) (w : World), Sort.Holds (Value.int .i64) w blk off zs.toArray → blk < w.heap.size → zs.length < 4611686018427387904 →
      Calls P f #[.slice (some ⟨blk, off, none⟩) zs.length cap] w fun e w' => e = .returned (.tuple #[]) ∧ ∃ n os, w' = Sort.grow (Sort.putRow (Value.int .i64) (Sort.ahead w n) blk off (zs.mergeSort fun x y => decide (x ≤ y)).toArray) os)
    (hn : ∀ h, Ex P f #[.slice none 0 0] h (.tuple #[]) h) {h : AH} {e lo : Nat} {s : Value} {l : List Int} (o : Hld e 1 h lo s (l.map (Value.int .i64))) (hsz : l.length < 4611686018427387904) :
    HC P f #[s] h fun r g => r = .ret (.tuple #[]) ∧ Hld e 1 g lo s ((l.mergeSort fun x y => decide (x ≤ y)).map (Value.int .i64)) ∧ Kp lo h g := by
  generalize hm : l.map (Value.int .i64) = m at o
  cases o with
  | nil =>
    have : l = [] := by simpa using hm
    subst this
    refine (hn h).mono fun r g ⟨e1, e2⟩ => ⟨e1, ?_, by rw [e2]; exact .refl _ _⟩
    simpa using Hld.nil
  | row hk hg hc hp =>
    subst hm
    rename_i k c
    rw [List.length_map] at hp
    rw [flatC_ints'] at hc
    subst hc
    refine (HC.sortInts hs (off := 0) (len := (l.map (Value.int .i64)).length) (cap := (l.map (Value.int .i64)).length) hg l (fun i x hx => by simp [hx]) (by simp) (by simpa using hp) (by simpa using hsz)).mono fun r g ⟨e1, e2⟩ => ⟨e1, ?_, ?_⟩
    · subst e2
      rw [setFrom_all (by simp [List.length_mergeSort])]
      have := Hld.row (e := e) (z := 1) (h := h.put k (some (.cells ((l.mergeSort fun x y => decide (x ≤ y)).map (Value.int .i64)).toArray e (0, 0), some 1))) (lo := lo) (k := k) (l := (l.mergeSort fun x y => decide (x ≤ y)).map (Value.int .i64)) hk (get_put_eq rfl) (by rw [flatC_ints']) (by simpa [List.length_mergeSort] using hp)
      simpa [List.length_mergeSort] using this
    · subst e2
      exact (Kp.refl lo h).put _ _ hk

end Go.Ab

/- AbFlat -/
namespace Go.Ab
set_option linter.unusedVariables false
set_option linter.unusedSimpArgs false

theorem flat_bind {P : Program} {α β : Type} {k : α → Sem β} : ∀ {m : Sem α}, flat P (m >>= k) = (flat P m).bind fun x => flat P (k x) := by
  intro m
  show flat P (Sem.bind m k) = _
  induction m with
  | pure x => rfl
  | program f ih => simp only [Sem.bind, flat]; exact ih P
  | mark m f ih => simp only [Sem.bind, flat]; exact ih
  | _ => rfl
theorem flat_pure {P : Program} {α : Type} {x : α} : flat P (pure x : Sem α) = some x := rfl
theorem flat_ite {P : Program} {α : Type} {c : Prop} [Decidable c] {a b : Sem α} : flat P (if c then a else b) = if c then flat P a else flat P b := by split <;> rfl
theorem flat_und {P : Program} {t : TypeId} {d : TypeDesc} (h : P.underlying t = some d) : flat P (underlying t) = some d := by
  have : flat P (underlying t) = flat P (match P.underlying t with | some d => pure d | none => stuck "no such type" : Sem TypeDesc) := rfl
  rw [this, h]; rfl

theorem flat_struct {P : Program} {d : Nat} {t : TypeId} {xs ys : Array Value} {fs : Array Field} (ht : P.underlying t = some (.struct fs)) (hp : P.stoodInHeld t = false) :
    flat P (Op.equalIn (d + 1) t (.agg xs) (.agg ys)) = flat P (Op.eqFields d xs ys fs.toList) := by
  have hprog : ∀ {β : Type} {k : Program → Sem β}, flat P (program >>= k) = flat P (k P) := fun {β k} => by rw [flat_bind]; rfl
  simp only [Op.equalIn]
  rw [flat_bind, flat_und ht]
  simp only [Option.bind_some]
  rw [hprog]
  simp only [hp, Bool.false_eq_true, if_false]
  rw [flat_bind, ← Array.forIn_toList]
  generalize fs.toList = l
  clear ht
  induction l with
  | nil => rfl
  | cons f l ih =>
    simp only [List.forIn_cons, Op.eqFields]
    by_cases hn : f.name ≠ "_"
    · rw [if_pos hn, if_pos hn]
      simp only [flat_bind]
      cases flat P (part f.type xs f.offset) with
      | none => rfl
      | some a =>
        cases flat P (part f.type ys f.offset) with
        | none => rfl
        | some b =>
          simp only [Option.bind_some]
          cases flat P (Op.equalIn d f.type a b) with
          | none => rfl
          | some r =>
            cases r
            · rfl
            · simp only [Option.bind_some, Bool.not_true, Bool.false_eq_true, if_false, flat_pure]
              exact ih
    · rw [if_neg hn, if_neg hn]
      simp only [flat_bind, flat_pure, Option.bind_some]
      exact ih

theorem flat_fnil {P : Program} {d : Nat} {xs ys : Array Value} : flat P (Op.eqFields d xs ys []) = some true := rfl
theorem flat_fcons {P : Program} {d : Nat} {xs ys : Array Value} {f : Field} {l : List Field} {a b : Value} {r q : Bool} (hn : f.name ≠ "_") (ha : flat P (part f.type xs f.offset) = some a) (hb : flat P (part f.type ys f.offset) = some b)
    (he : flat P (Op.equalIn d f.type a b) = some r) (hl : flat P (Op.eqFields d xs ys l) = some q) : flat P (Op.eqFields d xs ys (f :: l)) = some (r && q) := by
  simp only [Op.eqFields]
  rw [if_pos hn, flat_bind, ha]
  simp only [Option.bind_some]
  rw [flat_bind, hb]
  simp only [Option.bind_some]
  rw [flat_bind, he]
  cases r
  · rfl
  · simpa using hl
theorem flat_eqInt {P : Program} {d : Nat} {t : TypeId} {k : IntKind} {a b : Int} (h : P.underlying t = some (.int k)) : flat P (Op.equalIn (d + 1) t (.int k a) (.int k b)) = some (a == b) := by
  simp only [Op.equalIn]
  rw [flat_bind, flat_und h]
  simp only [Option.bind_some, if_true]
  rfl
theorem flat_eqBool {P : Program} {d : Nat} {t : TypeId} {a b : Bool} (h : P.underlying t = some .bool) : flat P (Op.equalIn (d + 1) t (.bool a) (.bool b)) = some (a == b) := by
  simp only [Op.equalIn]
  rw [flat_bind, flat_und h]
  rfl
theorem flat_eqStr {P : Program} {d : Nat} {t : TypeId} {a b : ByteArray} (h : P.underlying t = some .string) : flat P (Op.equalIn (d + 1) t (.string a) (.string b)) = some (a.toList == b.toList) := by
  simp only [Op.equalIn]
  rw [flat_bind, flat_und h]
  simp only [Option.bind_some]
  rw [← beq_toListBytes]
  rfl

theorem bin_eqStruct {P : Program} {t : TypeId} {x y : Operand} {xs ys : Array Value} {h : AH} {r : Bool} (hm : P.eqGuardType P.depth t = false) (hx : plain (.agg xs) = true) (hy : plain (.agg ys) = true) (he : flat P (Op.equalIn 10000 t (.agg xs) (.agg ys)) = some r) :
    binV P .eql t x y (.agg xs) (.agg ys) h = some (.bool r) := by
  unfold binV absBin
  have hg : flat P (eqGuard .eql t x y (.agg xs) (.agg ys)) = some () := by
    have hprog : ∀ {β : Type} {k : Program → Sem β}, flat P (program >>= k) = flat P (k P) := fun {β k} => by rw [flat_bind]; rfl
    simp only [eqGuard, Bool.not_true, Bool.false_eq_true, if_false]
    rw [hprog, hprog]
    simp only [hm, Bool.not_false, if_true]
    rfl
  have hf : flatV P (do eqGuard .eql t x y (.agg xs) (.agg ys); binOp .eql t (.agg xs) (.agg ys)) = some (.bool r) := by
    unfold flatV
    rw [flat_bind, hg]
    simp only [Option.bind_some]
    have : flat P (binOp .eql t (.agg xs) (.agg ys)) = some (.bool r) := by
      show flat P (Op.equal t (.agg xs) (.agg ys) >>= fun b => pure (Value.bool b)) = _
      rw [flat_bind, show flat P (Op.equal t (.agg xs) (.agg ys)) = _ from he]
      rfl
    rw [this]; rfl
  rw [hx, hy]
  simp only [Bool.and_self, if_true]
  rw [hf]; rfl

theorem bin_neqStruct {P : Program} {t : TypeId} {x y : Operand} {xs ys : Array Value} {h : AH} {r : Bool} (hm : P.eqGuardType P.depth t = false) (hx : plain (.agg xs) = true) (hy : plain (.agg ys) = true) (he : flat P (Op.equalIn 10000 t (.agg xs) (.agg ys)) = some r) :
    binV P .neq t x y (.agg xs) (.agg ys) h = some (.bool (!r)) := by
  unfold binV absBin
  have hg : flat P (eqGuard .neq t x y (.agg xs) (.agg ys)) = some () := by
    have hprog : ∀ {β : Type} {k : Program → Sem β}, flat P (program >>= k) = flat P (k P) := fun {β k} => by rw [flat_bind]; rfl
    simp only [eqGuard, Bool.not_true, Bool.false_eq_true, if_false]
    rw [hprog, hprog]
    simp only [hm, Bool.not_false, if_true]
    rfl
  have hf : flatV P (do eqGuard .neq t x y (.agg xs) (.agg ys); binOp .neq t (.agg xs) (.agg ys)) = some (.bool (!r)) := by
    unfold flatV
    rw [flat_bind, hg]
    simp only [Option.bind_some]
    have : flat P (binOp .neq t (.agg xs) (.agg ys)) = some (.bool (!r)) := by
      show flat P (Op.equal t (.agg xs) (.agg ys) >>= fun b => pure (Value.bool (!b))) = _
      rw [flat_bind, show flat P (Op.equal t (.agg xs) (.agg ys)) = _ from he]
      rfl
    rw [this]; rfl
  rw [hx, hy]
  simp only [Bool.and_self, if_true]
  rw [hf]; rfl

/-- where a key stands among others that are compared at once -/
def findW {α : Type} (p : α → Bool) : List α → Nat → Option (Nat × α)
  | [], _ => none
  | x :: l, i => if p x then some (i, x) else findW p l (i + 1)

theorem findNow_map {α : Type} {d : TypeDesc} {k : Value} {f : α → MapEntry} {p : α → Bool} : ∀ {l : List α} {i : Nat}, (∀ x ∈ l, Instr.sameNow d k (f x).key = some (p x)) → Instr.findNow d k (l.map f) i = some ((findW p l i).map fun r => (r.1, (f r.2).val)) := by
  intro l
  induction l with
  | nil => intro i _; rfl
  | cons x l ih =>
    intro i h
    simp only [List.map_cons, Instr.findNow, findW, h x (by simp)]
    cases p x
    · simpa using ih fun y hy => h y (List.mem_cons_of_mem _ hy)
    · rfl
theorem findAskA_map {α : Type} {P : Program} {kt : TypeId} {k : Value} {f : α → MapEntry} {p : α → Bool} : ∀ {l : List α} {i : Nat}, (∀ x ∈ l, plain (f x).key = true ∧ flat P (Op.equal kt k (f x).key) = some (p x)) → findAskA P kt k (l.map f) i = some ((findW p l i).map fun r => (r.1, (f r.2).val)) := by
  intro l
  induction l with
  | nil => intro i _; rfl
  | cons x l ih =>
    intro i h
    obtain ⟨h1, h2⟩ := h x (by simp)
    simp only [List.map_cons, findAskA, findW, h1, h2, if_true]
    cases p x
    · simpa using ih fun y hy => h y (List.mem_cons_of_mem _ hy)
    · rfl
theorem findW_none {α : Type} {p : α → Bool} : ∀ {l : List α} {i : Nat}, findW p l i = none ↔ ∀ x ∈ l, p x = false := by
  intro l
  induction l with
  | nil => intro i; simp [findW]
  | cons x l ih =>
    intro i
    simp only [findW, List.mem_cons, forall_eq_or_imp]
    cases h : p x
    · simpa using ih
    · simp
theorem findW_some {α : Type} {p : α → Bool} : ∀ {l : List α} {i : Nat} {r : Nat × α}, findW p l i = some r → ∃ a b, l = a ++ r.2 :: b ∧ r.1 = i + a.length ∧ p r.2 = true ∧ ∀ x ∈ a, p x = false := by
  intro l
  induction l with
  | nil => intro i r h; cases h
  | cons x l ih =>
    intro i r h
    simp only [findW] at h
    cases hp : p x with
    | true => rw [hp] at h; cases h; exact ⟨[], l, rfl, rfl, hp, fun y hy => by cases hy⟩
    | false =>
      rw [hp] at h
      obtain ⟨a, b, h1, h2, h3, h4⟩ := ih h
      exact ⟨x :: a, b, by rw [h1]; rfl, by rw [h2]; simp; omega, h3, fun y hy => by
        rcases List.mem_cons.1 hy with rfl | hy
        · exact hp
        · exact h4 y hy⟩
end Go.Ab

/- AbMap -/
namespace Go.Ab
set_option linter.unusedVariables false
set_option linter.unusedSimpArgs false

def lkR (ok : Bool) (z : Value) : Option (Nat × Value) → Value
  | some (_, v) => if ok then .tuple #[v, .bool true] else v
  | none => if ok then .tuple #[z, .bool false] else z

theorem opLookup_eq {P : Program} {h : AH} {t kt el : TypeId} {r clk : Nat} {es : Array MapEntry} {s : Option Nat} {k z : Value} {ok : Bool} {res : Option (Nat × Value)} (hu : P.underlying t = some (.map kt el)) (hz : ((P.info? el).bind (·.zero)) = some z) (hp : plain z = true)
    (hg : h.get r = some (.map es clk, s)) (hf : opFind P kt k es es.isEmpty = some res) : opLookup P h t (.map (some r)) k ok = some (lkR ok z res) := by
  obtain ⟨i, hi, hz⟩ : ∃ i, P.info? el = some i ∧ i.zero = some z := by
    cases hi : P.info? el with
    | none => rw [hi] at hz; cases hz
    | some i => rw [hi] at hz; exact ⟨i, rfl, hz⟩
  unfold opLookup
  simp only [hu, entriesOf, hg, hf]
  cases res with
  | none => simp only [hi, hz, hp, if_true, lkR]
  | some r => obtain ⟨j, v⟩ := r; simp only [lkR]

theorem opFind_now {P : Program} {kt : TypeId} {d : TypeDesc} {k : Value} {α : Type} {f : α → MapEntry} {p : α → Bool} {l : List α} {e : Bool} (hd : P.underlying kt = some d) (hp : plain k = true) (hc : flat P (Instr.checkKey e 10000 kt k) = some ())
    (h : ∀ x ∈ l, Instr.sameNow d k (f x).key = some (p x)) : opFind P kt k (l.map f).toArray e = some ((findW p l 0).map fun r => (r.1, (f r.2).val)) := by
  unfold opFind
  simp only [hd, hp, if_true, hc, findNow_map h]

theorem opFind_ask {P : Program} {kt : TypeId} {d : TypeDesc} {k : Value} {α : Type} {f : α → MapEntry} {p : α → Bool} {l : List α} {e : Bool} (hd : P.underlying kt = some d) (hp : plain k = true) (hc : flat P (Instr.checkKey e 10000 kt k) = some ())
    (hn : ∀ v, Instr.sameNow d k v = none) (h : ∀ x ∈ l, plain (f x).key = true ∧ flat P (Op.equal kt k (f x).key) = some (p x)) : opFind P kt k (l.map f).toArray e = some ((findW p l 0).map fun r => (r.1, (f r.2).val)) := by
  unfold opFind
  simp only [hd, hp, if_true, hc]
  cases l with
  | nil => rfl
  | cons x l =>
    have : Instr.findNow d k ((x :: l).map f) 0 = none := by simp only [List.map_cons, Instr.findNow, hn]
    simp only [this, findAskA_map h]

theorem mapUpdate_new {P : Program} {h : AH} {t kt el : TypeId} {b clk : Nat} {es : Array MapEntry} {s : Option Nat} {k v : Value} (hu : P.underlying t = some (.map kt el)) (hg : h.get b = some (.map es clk, s)) (hf : opFind P kt k es false = some none) :
    opMapUpdate P h t (.map (some b)) k v = some (h.put b (some (.map (es.push { key := k, val := v, born := clk }) (clk + 1), s))) := by
  unfold opMapUpdate
  simp only [hu, hg, hf]

theorem mapUpdate_old {P : Program} {h : AH} {t kt el : TypeId} {b clk i : Nat} {es : Array MapEntry} {s : Option Nat} {k v v0 : Value} {e : MapEntry} (hu : P.underlying t = some (.map kt el)) (hg : h.get b = some (.map es clk, s)) (hf : opFind P kt k es false = some (some (i, v0)))
    (he : es[i]? = some e) (hk : e.key = k) (hp : plain k = true) (hs : Instr.sameBits 10000 k k = true) :
    opMapUpdate P h t (.map (some b)) k v = some (h.put b (some (.map (es.modify i fun e => { e with key := k, val := v }) clk, s))) := by
  unfold opMapUpdate
  subst hk
  simp only [hu, hg, hf, he, hp, hs, Bool.and_self, if_true]

theorem findW_at {α : Type} {p : α → Bool} {l : List α} {r : Nat × α} (h : findW p l 0 = some r) : l[r.1]? = some r.2 ∧ p r.2 = true := by
  obtain ⟨a, b, h1, h2, h3, _⟩ := findW_some h
  refine ⟨?_, h3⟩
  rw [h1, h2]
  simp

/-- an entry is changed where it stands -/
theorem modify_map {α : Type} {f : α → MapEntry} {l : List α} {i : Nat} {g : MapEntry → MapEntry} {u : α → α} (h : ∀ x, l[i]? = some x → g (f x) = f (u x)) : ((l.map f).toArray.modify i g) = ((l.modify i u).map f).toArray := by
  apply Array.ext_getElem?
  intro j
  rw [Array.getElem?_modify]
  simp only [List.getElem?_toArray, List.getElem?_map, List.getElem?_modify]
  by_cases e : i = j
  · subst e
    simp only [if_true]
    cases hx : l[i]? with
    | none => rfl
    | some x => simp [h x hx]
  · simp [e]

theorem modify_same {α : Type} {f : α → MapEntry} {l : List α} {i : Nat} {g : MapEntry → MapEntry} (h : ∀ x, l[i]? = some x → g (f x) = f x) : (l.map f).toArray.modify i g = (l.map f).toArray := by
  apply Array.ext_getElem?
  intro j
  rw [Array.getElem?_modify]
  simp only [List.getElem?_toArray, List.getElem?_map]
  by_cases e : i = j
  · subst e
    simp only [if_true]
    cases hx : l[i]? with
    | none => rfl
    | some x => simp [h x hx]
  · simp [e]

theorem mem_modify {α : Type} {l : List α} {i : Nat} {u : α → α} {x : α} (h : x ∈ l.modify i u) : x ∈ l ∨ ∃ y, l[i]? = some y ∧ x = u y := by
  obtain ⟨j, hj⟩ := List.mem_iff_getElem?.1 h
  rw [List.getElem?_modify] at hj
  by_cases e : i = j
  · subst e
    simp only [if_true] at hj
    cases hx : l[i]? with
    | none => rw [hx] at hj; cases hj
    | some y => rw [hx] at hj; cases hj; exact .inr ⟨y, rfl, rfl⟩
  · simp only [e, if_false, id_map'] at hj
    exact .inl (List.mem_of_getElem? hj)

theorem map_modify_same {α β : Type} {f : α → β} {l : List α} {i : Nat} {u : α → α} (h : ∀ x, l[i]? = some x → f (u x) = f x) : (l.modify i u).map f = l.map f := by
  apply List.ext_getElem?
  intro j
  simp only [List.getElem?_map, List.getElem?_modify]
  by_cases e : i = j
  · subst e
    cases hx : l[i]? with
    | none => rfl
    | some x => simp [h x hx]
  · simp [e]

theorem nodup_idx {α β : Type} {f : α → β} : ∀ {l : List α}, (l.map f).Nodup → ∀ {i j : Nat} {a b : α}, l[i]? = some a → l[j]? = some b → f a = f b → i = j := by
  intro l
  induction l with
  | nil => intro _ i j a b h; simp at h
  | cons x l ih =>
    intro hn i j a b h1 h2 he
    simp only [List.map_cons, List.nodup_cons] at hn
    cases i with
    | zero =>
      cases j with
      | zero => rfl
      | succ j =>
        simp at h1 h2
        subst h1
        exact absurd (he ▸ List.mem_map_of_mem (List.mem_of_getElem? h2)) hn.1
    | succ i =>
      cases j with
      | zero =>
        simp at h1 h2
        subst h2
        exact absurd (he.symm ▸ List.mem_map_of_mem (List.mem_of_getElem? h1)) hn.1
      | succ j => exact congrArg (· + 1) (ih hn.2 (i := i) (j := j) (by simpa using h1) (by simpa using h2) he)

end Go.Ab

/- AbExec -/
namespace Go.Ab
set_option linter.unusedVariables false
set_option linter.unusedSimpArgs false

abbrev Outs := List (HX × AA × AH)

def goO (k : HX → AA → AH → Option Outs) : Outs → Option Outs
  | [] => some []
  | (e, a, h) :: l => match k e a h, goO k l with
    | some x, some y => some (x ++ y)
    | _, _ => none
def bindO (o : Option Outs) (k : HX → AA → AH → Option Outs) : Option Outs := match o with
  | none => none
  | some l => goO k l

theorem goO_mem {k : HX → AA → AH → Option Outs} : ∀ {l L : Outs}, goO k l = some L → ∀ e a h, (e, a, h) ∈ l → ∃ m, k e a h = some m ∧ ∀ x ∈ m, x ∈ L := by
  intro l
  induction l with
  | nil => intro L _ e a h hm; cases hm
  | cons y l ih =>
    intro L hL e a h hm
    obtain ⟨e0, a0, h0⟩ := y
    simp only [goO] at hL
    split at hL
    · rename_i x y hx hy
      cases hL
      rcases List.mem_cons.1 hm with e1 | hm
      · cases e1; exact ⟨x, hx, fun z hz => List.mem_append_left _ hz⟩
      · obtain ⟨m, h1, h2⟩ := ih hy e a h hm
        exact ⟨m, h1, fun z hz => List.mem_append_right _ (h2 z hz)⟩
    · cases hL
theorem goO_back {k : HX → AA → AH → Option Outs} : ∀ {l L : Outs}, goO k l = some L → ∀ x ∈ L, ∃ e a h m, (e, a, h) ∈ l ∧ k e a h = some m ∧ x ∈ m := by
  intro l
  induction l with
  | nil => intro L hL x hx; cases hL; cases hx
  | cons y l ih =>
    intro L hL x hx
    obtain ⟨e0, a0, h0⟩ := y
    simp only [goO] at hL
    split at hL
    · rename_i u v hu hv
      cases hL
      rcases List.mem_append.1 hx with h1 | h1
      · exact ⟨e0, a0, h0, u, by simp, hu, h1⟩
      · obtain ⟨e, a, h, m, g1, g2, g3⟩ := ih hv x h1
        exact ⟨e, a, h, m, List.mem_cons_of_mem _ g1, g2, g3⟩
    · cases hL
theorem bindO_eq {o : Option Outs} {k : HX → AA → AH → Option Outs} {L : Outs} (h : bindO o k = some L) : ∃ l, o = some l ∧ goO k l = some L := by
  cases o with
  | none => cases h
  | some l => exact ⟨l, rfl, h⟩

/-- the steps that a walk may take -/
def nextM (P : Program) (h : AH) (it : Value) (s : Bool) : Option (List (Value × AH)) := match it with
  | .pointer (some ⟨r, 0, none⟩) => match h.get r with
    | some (.mapIter (some m) since seen last, so) => if s then none else match h.get m with
      | some (.map es clock, _) => if !seen.isEmpty && !es.isEmpty && es.all (·.born ≥ last) then none else
        let un := es.toList.filter fun e => !seen.contains e.born
        some ((if un.all fun e => decide (since ≤ e.born) then [(overV, h)] else []) ++ un.map fun e => (.tuple #[.bool true, e.key, e.val], h.put r (some (.mapIter (some m) since (seen.push e.born) clock, so))))
      | _ => none
    | _ => (opNext P h it s).map fun r => [r]
  | _ => none

theorem nextM_P {P : Program} {h : AH} {it : Value} {s : Bool} {L : List (Value × AH)} {k : Value → AH → Prop} (hh : nextM P h it s = some L) (hk : ∀ x ∈ L, k x.1 x.2) : nextP P h it s k := by
  unfold nextM at hh
  unfold nextP
  split at hh
  case h_2 => cases hh
  rename_i r
  simp only
  split at hh
  · rename_i m since seen last so hg
    simp only [hg]
    split at hh
    · cases hh
    rename_i hs
    refine ⟨by simpa using hs, ?_⟩
    split at hh
    case h_2 => cases hh
    rename_i es clock sm hm
    simp only [hm]
    split at hh
    · cases hh
    rename_i hc
    cases hh
    refine ⟨by simpa using hc, fun hall => ?_, fun e he hse => ?_⟩
    · refine hk (overV, h) (List.mem_append_left _ ?_)
      rw [if_pos]
      · simp
      · rw [List.all_eq_true]
        intro e he
        rw [List.mem_filter] at he
        simpa using hall e he.1 (by simpa using he.2)
    · refine hk (_, _) (List.mem_append_right _ (List.mem_map.2 ⟨e, List.mem_filter.2 ⟨he, by rw [hse]; rfl⟩, rfl⟩))
  · rename_i hne
    cases ho : opNext P h (.pointer (some ⟨r, 0, none⟩)) s with
    | none => rw [ho] at hh; cases hh
    | some x =>
      rw [ho] at hh
      cases hh
      have := hk x (by simp)
      split
      · rename_i m since seen last so hg; exact absurd hg (hne _ _ _ _ _)
      · first | exact this | (rw [ho]; exact this)

theorem nextM_logs {P : Program} {h : AH} {it : Value} {s : Bool} {L : List (Value × AH)} (hh : nextM P h it s = some L) : ∀ x ∈ L, Logs h x.2 := by
  unfold nextM at hh
  split at hh
  case h_2 => cases hh
  split at hh
  · split at hh
    · cases hh
    split at hh
    case h_2 => cases hh
    split at hh
    · cases hh
    cases hh
    intro x hx
    rcases List.mem_append.1 hx with h1 | h1
    · split at h1
      · rw [List.mem_singleton.1 h1]; exact .refl _
      · cases h1
    · obtain ⟨e, _, rfl⟩ := List.mem_map.1 h1
      exact .put _ _ _
  · rename_i hne
    rw [Option.map_eq_some_iff] at hh
    obtain ⟨y, hy, rfl⟩ := hh
    intro x hx
    rw [List.mem_singleton.1 hx]
    exact logs_next hy

def jOf : HX → Option (Option Code)
  | .normal => some none
  | .ret => some (some .ret)
  | .exit i => some (some (.exit i))
  | .goto l => some (some (.goto l))
  | .panic _ => none

def endM (k : Nat) (e : HX) (h : AH) : Option (Value × AH) := match jOf e, loopAt h k with
  | some j, some r => some (.bool j.isNone, h.put k (some (.loop { r.1 with state := if j.isNone then .ready else .done, pending := j }, r.2)))
  | _, _ => none

abbrev CodeF := Code → AA → AH → Option Outs

def mapE (k : Nat) : Outs → Option (List (Value × AH))
  | [] => some []
  | (e, _, h) :: l => match endM k e h, mapE k l with
    | some x, some y => some (x :: y)
    | _, _ => none

def goR (code : CodeF) (k : Nat) (body : Code) : Outs → Option (List (Value × AH))
  | [] => some []
  | (e, a, h) :: l => match e, loopAt h k, goR code k body l with
    | .normal, some q, some y => if q.1.state = .ready then match code body a (h.put k (some (.loop { q.1 with state := .busy }, q.2))) with
      | some L => match mapE k L with
        | some x => some (x ++ y)
        | none => none
      | none => none
      else none
    | _, _, _ => none

/-- a round of the loop k -/
def roundM (code : CodeF) (k : Nat) (args : List Value) (h : AH) : Option (List (Value × AH)) := match loopAt h k with
  | some r => if args.length = r.1.params.size then match code r.1.assign (roundA r.1 k args) h with
    | some L => goR code k r.1.body L
    | none => none
    else none
  | none => none

def CodeH (P : Program) (f : CodeF) : Prop := ∀ c a h L, f c a h = some L → HW P c a h fun e a' h' => (e, a', h') ∈ L
def CodeL (f : CodeF) : Prop := ∀ c a h L, f c a h = some L → ∀ x ∈ L, Logs h x.2.2

theorem HW.mono {P : Program} {c : Code} {a : AA} {h : AH} {Q R : HX → AA → AH → Prop} (hh : HW P c a h Q) (hr : ∀ e a h, Q e a h → R e a h) : HW P c a h R :=
  fun B ro E w x r rx => wpIn_mono (hh B ro E w x r rx) fun e y w' hp => hp.mono hr

theorem mapE_mem {k : Nat} : ∀ {l : Outs} {L : List (Value × AH)}, mapE k l = some L → ∀ e a h, (e, a, h) ∈ l → ∃ x, endM k e h = some x ∧ x ∈ L := by
  intro l
  induction l with
  | nil => intro L _ e a h hm; cases hm
  | cons y l ih =>
    intro L hL e a h hm
    obtain ⟨e0, a0, h0⟩ := y
    simp only [mapE] at hL
    split at hL
    · rename_i x y hx hy
      cases hL
      rcases List.mem_cons.1 hm with e1 | hm
      · cases e1; exact ⟨x, hx, by simp⟩
      · obtain ⟨z, h1, h2⟩ := ih hy e a h hm
        exact ⟨z, h1, List.mem_cons_of_mem _ h2⟩
    · cases hL
theorem mapE_back {k : Nat} : ∀ {l : Outs} {L : List (Value × AH)}, mapE k l = some L → ∀ x ∈ L, ∃ e a h, (e, a, h) ∈ l ∧ endM k e h = some x := by
  intro l
  induction l with
  | nil => intro L hL x hx; cases hL; cases hx
  | cons y l ih =>
    intro L hL x hx
    obtain ⟨e0, a0, h0⟩ := y
    simp only [mapE] at hL
    split at hL
    · rename_i u v hu hv
      cases hL
      rcases List.mem_cons.1 hx with rfl | h1
      · exact ⟨e0, a0, h0, by simp, hu⟩
      · obtain ⟨e, a, h, g1, g2⟩ := ih hv x h1
        exact ⟨e, a, h, List.mem_cons_of_mem _ g1, g2⟩
    · cases hL
theorem goR_mem {code : CodeF} {k : Nat} {body : Code} : ∀ {l : Outs} {L : List (Value × AH)}, goR code k body l = some L → ∀ e a h, (e, a, h) ∈ l →
    e = .normal ∧ ∃ q M X, loopAt h k = some q ∧ q.1.state = .ready ∧ code body a (h.put k (some (.loop { q.1 with state := .busy }, q.2))) = some M ∧ mapE k M = some X ∧ ∀ x ∈ X, x ∈ L := by
  intro l
  induction l with
  | nil => intro L _ e a h hm; cases hm
  | cons y l ih =>
    intro L hL e a h hm
    obtain ⟨e0, a0, h0⟩ := y
    simp only [goR] at hL
    split at hL
    · rename_i q y hq hy
      split at hL
      case isFalse => cases hL
      rename_i hs
      split at hL
      case h_2 => cases hL
      rename_i M hM
      split at hL
      case h_2 => cases hL
      rename_i X hX
      cases hL
      rcases List.mem_cons.1 hm with e1 | hm
      · cases e1; exact ⟨rfl, q, M, X, hq, hs, hM, hX, fun z hz => List.mem_append_left _ hz⟩
      · obtain ⟨g0, q', M', X', g1, g2, g3, g4, g5⟩ := ih hy e a h hm
        exact ⟨g0, q', M', X', g1, g2, g3, g4, fun z hz => List.mem_append_right _ (g5 z hz)⟩
    · cases hL
theorem goR_back {code : CodeF} {k : Nat} {body : Code} : ∀ {l : Outs} {L : List (Value × AH)}, goR code k body l = some L → ∀ x ∈ L, ∃ e a h q M X, (e, a, h) ∈ l ∧ loopAt h k = some q ∧
    code body a (h.put k (some (.loop { q.1 with state := .busy }, q.2))) = some M ∧ mapE k M = some X ∧ x ∈ X := by
  intro l
  induction l with
  | nil => intro L hL x hx; cases hL; cases hx
  | cons y l ih =>
    intro L hL x hx
    obtain ⟨e0, a0, h0⟩ := y
    simp only [goR] at hL
    split at hL
    · rename_i q y hq hy
      split at hL
      case isFalse => cases hL
      split at hL
      case h_2 => cases hL
      rename_i M hM
      split at hL
      case h_2 => cases hL
      rename_i X hX
      cases hL
      rcases List.mem_append.1 hx with h1 | h1
      · exact ⟨.normal, a0, h0, q, M, X, by simp, hq, hM, hX, h1⟩
      · obtain ⟨e, a, h, q', M', X', g1, g2⟩ := ih hy x h1
        exact ⟨e, a, h, q', M', X', List.mem_cons_of_mem _ g1, g2⟩
    · cases hL

theorem roundM_P {P : Program} {code : CodeF} (hc : CodeH P code) {k : Nat} {args : List Value} {h : AH} {L : List (Value × AH)} {K : Value → AH → Prop} (hh : roundM code k args h = some L) (hk : ∀ x ∈ L, K x.1 x.2) : roundP P k args h K := by
  unfold roundM at hh
  split at hh
  case h_2 => cases hh
  rename_i r hr
  split at hh
  case isFalse => cases hh
  rename_i hl
  split at hh
  case h_2 => cases hh
  rename_i M hM
  unfold roundP
  refine bq_of hr ⟨hl, (hc _ _ _ _ hM).mono fun e a h1 hm => ?_⟩
  obtain ⟨rfl, q, M2, X, g1, g2, g3, g4, g5⟩ := goR_mem hh e a h1 hm
  refine bq_of g1 ⟨g2, (hc _ _ _ _ g3).mono fun e2 a2 h2 hm2 => ?_⟩
  obtain ⟨x, e1, hx⟩ := mapE_mem g4 e2 a2 h2 hm2
  have hK := hk x (g5 x hx)
  unfold endM at e1
  split at e1
  case h_2 => cases e1
  rename_i j q2 hj hq2
  cases e1
  cases e2 with
  | normal => cases hj; exact bq_of hq2 hK
  | ret => cases hj; exact bq_of hq2 hK
  | exit i => cases hj; exact bq_of hq2 hK
  | goto i => cases hj; exact bq_of hq2 hK
  | panic v => cases hj

theorem roundM_logs {code : CodeF} (hc : CodeL code) {k : Nat} {args : List Value} {h : AH} {L : List (Value × AH)} (hh : roundM code k args h = some L) : ∀ x ∈ L, Logs h x.2 := by
  unfold roundM at hh
  split at hh
  case h_2 => cases hh
  rename_i r hr
  split at hh
  case isFalse => cases hh
  split at hh
  case h_2 => cases hh
  rename_i M hM
  intro x hx
  obtain ⟨e, a, h1, q, M2, X, g1, g2, g3, g4, g5⟩ := goR_back hh x hx
  obtain ⟨e2, a2, h2, g6, g7⟩ := mapE_back g4 x g5
  have l1 := hc _ _ _ _ hM _ g1
  have l2 := hc _ _ _ _ g3 _ g6
  unfold endM at g7
  split at g7
  · cases g7
    exact l1.trans ((Logs.put _ _ _).trans (l2.trans (.put _ _ _)))
  · cases g7

/-- what an operation may come to: did it panic, the value, the heap -/
def opM (P : Program) (call : CallF) (code : CodeF) (a : AA) (o : Oper) (h : AH) : Option (List (Bool × Value × AH)) :=
  match o.op with
  | .panic x => match a.opnd P x with
    | some (.iface t u) => some [(true, .iface t u, h)]
    | _ => none
  | .next it s => match a.opnd P it with
    | some v => (nextM P h v s).map fun l => l.map fun x => (false, x.1, x.2)
    | none => none
  | .call c => match yieldOf P a c with
    | some (k, args) => (roundM code k args h).map fun l => l.map fun x => (false, x.1, x.2)
    | none => plainM
  | _ => plainM
  where
  yieldOf (P : Program) (a : AA) (c : Call) : Option (Nat × List Value) := match c.callee with
    | .value f => match a.opnd P f, listOf (a.opnd P) c.args.toList with
      | some (.chan (some k)), some args => some (k, args)
      | _, _ => none
    | _ => none
  plainM : Option (List (Bool × Value × AH)) := match absOp P (a.opnd P) o h with
    | some (.val v h') => some [(false, v, h')]
    | some (.unit h') => some [(false, undef, h')]
    | some (.enter f args h') => match call f args h' with
      | some (v, _, h'') => some [(false, v, h'')]
      | none => none
    | none => none

theorem opM_wp {P : Program} {call : CallF} {code : CodeF} (hcl : CallOk P call) (hcd : CodeH P code) {o : Oper} {a : AA} {h : AH} {L : List (Bool × Value × AH)} (hh : opM P call code a o h = some L)
    {B : Nat} {ro : Option Nat} {E : Ren} {w : World} {x : Act} {K : Act → World → Prop} {W : Exit → Act → World → Prop} (r : RW P E h w) (rx : RX B ro E w a x)
    (hk : ∀ v h' E' w' z, (false, v, h') ∈ L → RW P E' h' w' → Ext E w E' w' → RX B ro E' w' (a.put o.dst v) z → K z w')
    (hp : ∀ v v' h' E' w', (true, v, h') ∈ L → RW P E' h' w' → Ext E w E' w' → RV E' v v' → W (.panic [{ v := v', recovered := false }]) x w') : o.wpR ro P x w K W := by
  have hput : ∀ (d : Option Tmp) (v : Value), (x.put d v).defers = x.defers := fun d v => by cases d <;> rfl
  have hnext : ∀ {E' : Ren} {w' : World} {v v' : Value}, Ext E w E' w' → RV E' v v' → RX B ro E' w' (a.put o.dst v) (x.put o.dst v') := fun xe rv =>
    rx.next xe ((rx.rt.mono xe.le).put o.dst rv) (hput _ _) (AA.put_rnd _ _ _)
  have plain : opM.plainM P call a o h = some L → o.wpR ro P x w K W := by
    intro hh
    unfold opM.plainM at hh
    split at hh
    · rename_i v h' hop
      cases hh
      obtain ⟨E', v', w', h1, h2, h3, h4⟩ := absOp_ok r (rx.rt.opnd r) hop
      exact wpR_value (abs_nodefer hop) h1 (hk v h' E' w' _ (by simp) h2 h3 (hnext h3 h4))
    · rename_i h' hop
      cases hh
      obtain ⟨E', w', h1, h2, h3⟩ := absOp_ok r (rx.rt.opnd r) hop
      exact wpR_skip (abs_nodefer hop) h1 (hk undef h' E' w' _ (by simp) h2 h3 (hnext h3 rv_undef))
    · rename_i f args h' hop
      split at hh
      case h_2 => cases hh
      rename_i v q h'' hcall
      cases hh
      obtain ⟨E', args', w', h1, h2, h3, h4⟩ := absOp_ok r (rx.rt.opnd r) hop
      refine wpR_enter (abs_nodefer hop) h1 (((hcl f args h' v q h'' hcall).2 E' w' args' h2 h4).mono ?_)
      rintro e w'' ⟨E'', v', rfl, q2, q3, q4⟩
      exact hk v h'' E'' w'' _ (by simp) q2 (h3.trans q3) (hnext (h3.trans q3) q4)
    · cases hh
  unfold opM at hh
  split at hh
  · rename_i y ho
    split at hh
    case h_2 => cases hh
    rename_i t u e
    cases hh
    have hv := rx.rt.opnd r y _ e
    generalize hx : x.eval y = xv at hv
    cases hv with
    | iface _ hv =>
      rename_i u'
      refine wpR_panic (v := .iface t u') (w' := w) (fun d e => by rw [ho] at e; cases e) ?_ (hp _ _ h E w (by simp) r (.refl E w) (.iface t hv))
      unfold execOp
      rw [ho]
      simp only [hx, Instr.panic, goPanic]
      rfl
  · rename_i it s ho
    split at hh
    case h_2 => cases hh
    rename_i iv e
    rw [Option.map_eq_some_iff] at hh
    obtain ⟨l, hl, rfl⟩ := hh
    have hP := nextM_P (k := fun v h' => (false, v, h') ∈ l.map fun x => (false, x.1, x.2)) hl fun y hy => List.mem_map.2 ⟨y, hy, rfl⟩
    obtain ⟨v, v', h', w', q1, q2, q3, q4, q5⟩ := nextP_run (t := o.type) r hP (rx.rt.opnd r it iv e)
    refine wpR_value (v := v') (w' := w') (fun d e => by rw [ho] at e; cases e) ?_ (hk v h' E w' _ q5 q2 q3 (hnext q3 q4))
    unfold execOp
    rw [ho]
    exact val_run q1
  · rename_i c ho
    split at hh
    · rename_i k args hy
      rw [Option.map_eq_some_iff] at hh
      obtain ⟨l, hl, rfl⟩ := hh
      unfold opM.yieldOf at hy
      split at hy
      case h_2 => cases hy
      rename_i f hcal
      split at hy
      case h_2 => cases hy
      rename_i k' args' hf ha
      cases hy
      have hP := roundM_P (K := fun v h' => (false, v, h') ∈ l.map fun x => (false, x.1, x.2)) hcd hl fun y hy => List.mem_map.2 ⟨y, hy, rfl⟩
      exact round_wp r rx ho hcal hf ha (fun v h' E' w' z hkk q1 q2 q3 => hk v h' E' w' z hkk q1 q2 q3) hP
    · exact plain hh
  · exact plain hh

theorem opM_logs {P : Program} {call : CallF} {code : CodeF} (hcl : CallLogs call) (hcd : CodeL code) {o : Oper} {a : AA} {h : AH} {L : List (Bool × Value × AH)} (hh : opM P call code a o h = some L) : ∀ x ∈ L, Logs h x.2.2 := by
  have plain : opM.plainM P call a o h = some L → ∀ x ∈ L, Logs h x.2.2 := by
    intro hh
    unfold opM.plainM at hh
    split at hh
    · rename_i v h' hop
      cases hh
      intro x hx
      rw [List.mem_singleton.1 hx]
      exact absOp_logs hop
    · rename_i h' hop
      cases hh
      intro x hx
      rw [List.mem_singleton.1 hx]
      exact absOp_logs hop
    · rename_i f args h' hop
      split at hh
      case h_2 => cases hh
      rename_i v q h'' hcall
      cases hh
      intro x hx
      rw [List.mem_singleton.1 hx]
      exact (absOp_logs hop).trans (hcl _ _ _ _ _ _ hcall)
    · cases hh
  unfold opM at hh
  split at hh
  · split at hh
    case h_2 => cases hh
    cases hh
    intro x hx
    rw [List.mem_singleton.1 hx]
    exact .refl _
  · split at hh
    case h_2 => cases hh
    rw [Option.map_eq_some_iff] at hh
    obtain ⟨l, hl, rfl⟩ := hh
    intro x hx
    obtain ⟨y, hy, rfl⟩ := List.mem_map.1 hx
    exact nextM_logs hl y hy
  · split at hh
    · rw [Option.map_eq_some_iff] at hh
      obtain ⟨l, hl, rfl⟩ := hh
      intro x hx
      obtain ⟨y, hy, rfl⟩ := List.mem_map.1 hx
      exact roundM_logs hcd hl y hy
    · exact plain hh
  · exact plain hh

def goM (dst : Option Tmp) (k : AA → AH → Option Outs) (a : AA) : List (Bool × Value × AH) → Option Outs
  | [] => some []
  | (p, v, h) :: l => match (if p then some [(HX.panic v, a, h)] else k (a.put dst v) h), goM dst k a l with
    | some x, some y => some (x ++ y)
    | _, _ => none

theorem goM_mem {dst : Option Tmp} {k : AA → AH → Option Outs} {a : AA} : ∀ {l : List (Bool × Value × AH)} {L : Outs}, goM dst k a l = some L → ∀ p v h, (p, v, h) ∈ l →
    (p = true ∧ (HX.panic v, a, h) ∈ L) ∨ (p = false ∧ ∃ m, k (a.put dst v) h = some m ∧ ∀ x ∈ m, x ∈ L) := by
  intro l
  induction l with
  | nil => intro L _ p v h hm; cases hm
  | cons y l ih =>
    intro L hL p v h hm
    obtain ⟨p0, v0, h0⟩ := y
    simp only [goM] at hL
    split at hL
    · rename_i x y hx hy
      cases hL
      rcases List.mem_cons.1 hm with e1 | hm
      · cases e1
        cases p with
        | true => rw [if_pos rfl] at hx; cases hx; exact .inl ⟨rfl, by simp⟩
        | false => rw [if_neg (by simp)] at hx; exact .inr ⟨rfl, x, hx, fun z hz => List.mem_append_left _ hz⟩
      · rcases ih hy p v h hm with ⟨h1, h2⟩ | ⟨h1, m, h2, h3⟩
        · exact .inl ⟨h1, List.mem_append_right _ h2⟩
        · exact .inr ⟨h1, m, h2, fun z hz => List.mem_append_right _ (h3 z hz)⟩
    · cases hL
theorem goM_back {dst : Option Tmp} {k : AA → AH → Option Outs} {a : AA} : ∀ {l : List (Bool × Value × AH)} {L : Outs}, goM dst k a l = some L → ∀ x ∈ L, ∃ p v h, (p, v, h) ∈ l ∧
    (x = (HX.panic v, a, h) ∨ ∃ m, k (a.put dst v) h = some m ∧ x ∈ m) := by
  intro l
  induction l with
  | nil => intro L hL x hx; cases hL; cases hx
  | cons y l ih =>
    intro L hL x hx
    obtain ⟨p0, v0, h0⟩ := y
    simp only [goM] at hL
    split at hL
    · rename_i u w hu hw
      cases hL
      rcases List.mem_append.1 hx with h1 | h1
      · refine ⟨p0, v0, h0, by simp, ?_⟩
        cases p0 with
        | true => rw [if_pos rfl] at hu; cases hu; exact .inl (List.mem_singleton.1 h1)
        | false => rw [if_neg (by simp)] at hu; exact .inr ⟨u, hu, h1⟩
      · obtain ⟨p, v, h, g1, g2⟩ := ih hw x h1
        exact ⟨p, v, h, List.mem_cons_of_mem _ g1, g2⟩
    · cases hL

def opsM (P : Program) (call : CallF) (code : CodeF) (ops : Array Oper) : List Nat → AA → AH → Option Outs
  | [], a, h => some [(.normal, a, h)]
  | i :: rest, a, h =>
    match ops[i]? with
    | none => opsM P call code ops rest a h
    | some o => if a.knows ops o then
        if Region.wanted o (a.yielded ops) then match opM P call code a o h with
          | some l => goM o.dst (opsM P call code ops rest) a l
          | none => none
        else opsM P call code ops rest (a.put o.dst undef) h
      else none

theorem opsM_ok {P : Program} {call : CallF} {code : CodeF} (hcl : CallOk P call) (hcd : CodeH P code) {ops : Array Oper} : ∀ (l : List Nat) {a : AA} {h : AH} {L : Outs} {Q : HX → AA → AH → Prop}, opsM P call code ops l a h = some L → (∀ e a' h', (e, a', h') ∈ L → Q e a' h') →
    ∀ {B : Nat} {ro : Option Nat} {E₀ E : Ren} {w₀ w : World} {x : Act}, RW P E h w → Ext E₀ w₀ E w → RX B ro E w a x → wpOpsR ro P ops (HPost P B ro E₀ w₀ Q) l x w := by
  intro l
  induction l with
  | nil =>
    intro a h L Q hh hq B ro E₀ E w₀ w x r xt rx
    cases hh
    exact ⟨.normal, a, h, E, trivial, r, xt, rx, hq _ _ _ (by simp)⟩
  | cons i rest ih =>
    intro a h L Q hh hq B ro E₀ E w₀ w x r xt rx
    have hput : ∀ (d : Option Tmp) (v : Value), (x.put d v).defers = x.defers := fun d v => by cases d <;> rfl
    simp only [opsM] at hh
    simp only [wpOpsR]
    cases ho : ops[i]? with
    | none => rw [ho] at hh; exact ih hh hq r xt rx
    | some o =>
      rw [ho] at hh
      simp only at hh ⊢
      split at hh
      case isFalse => cases hh
      rename_i hkn
      rw [← rx.rt.yielded ops hkn]
      split at hh
      · rename_i hw
        rw [if_pos hw]
        split at hh
        case h_2 => cases hh
        rename_i M hM
        refine opM_wp hcl hcd hM r rx (fun v h' E' w' z hm q1 q2 q3 => ?_) (fun v v' h' E' w' hm q1 q2 q3 => ?_)
        · rcases goM_mem hh false v h' hm with ⟨e, _⟩ | ⟨_, m, h1, h2⟩
          · cases e
          · exact ih h1 (fun e a' h' hx => hq e a' h' (h2 _ hx)) q1 (xt.trans q2) q3
        · rcases goM_mem hh true v h' hm with ⟨_, h1⟩ | ⟨e, _⟩
          · exact ⟨.panic v, a, h', E', ⟨v', rfl, q3⟩, q1, xt.trans q2, rx.next q2 (rx.rt.mono q2.le) rfl rfl, hq _ _ _ h1⟩
          · cases e
      · rename_i hw
        rw [if_neg hw]
        exact ih hh hq r xt (rx.next (.refl E w) (rx.rt.put o.dst rv_undef) (hput _ _) (AA.put_rnd _ _ _))

theorem opsM_logs {P : Program} {call : CallF} {code : CodeF} (hcl : CallLogs call) (hcd : CodeL code) {ops : Array Oper} : ∀ (l : List Nat) {a : AA} {h : AH} {L : Outs}, opsM P call code ops l a h = some L → ∀ x ∈ L, Logs h x.2.2 := by
  intro l
  induction l with
  | nil =>
    intro a h L hh x hx
    cases hh
    rw [List.mem_singleton.1 hx]
    exact .refl _
  | cons i rest ih =>
    intro a h L hh
    simp only [opsM] at hh
    split at hh
    · exact ih hh
    · split at hh
      case isFalse => cases hh
      split at hh
      · split at hh
        case h_2 => cases hh
        rename_i M hM
        intro x hx
        obtain ⟨p, v, h', g1, g2⟩ := goM_back hh x hx
        have := opM_logs hcl hcd hM _ g1
        rcases g2 with rfl | ⟨m, g2, g3⟩
        · exact this
        · exact this.trans (ih g2 x g3)
      · exact ih hh

def loopM (body : AA → AH → Option Outs) : Nat → AA → AH → Option Outs
  | 0, _, _ => none
  | k + 1, a, h => bindO (body a h) fun e a' h' => match e with
    | .normal => loopM body k a' h'
    | e => some [(e, a', h')]

def rndB (o : Option Nat) (h : AH) : Bool := match o with
  | none => true
  | some k => (loopAt h k).isSome

def codeM (P : Program) (call : CallF) (code : CodeF) (k : Nat) : Code → AA → AH → Option Outs
  | .skip, a, h | .label _, a, h => some [(.normal, a, h)]
  | .region _ ops draw, a, h => if draw then (match drawRun P call ops a h with
    | some (a', h') => some [(.normal, a', h')]
    | none => none) else opsM P call code ops (List.range ops.size) a h
  | .seq x y, a, h => bindO (codeM P call code k x a h) fun e a' h' => match e with
    | .normal => codeM P call code k y a' h'
    | e => some [(e, a', h')]
  | .cond c x y, a, h => match a.opnd P c with
    | some (.bool true) => codeM P call code k x a h
    | some (.bool false) => codeM P call code k y a h
    | _ => none
  | .block id x, a, h => (codeM P call code k x a h).map fun l => l.map fun (e, a', h') => match e with
    | .exit j => if j = id then (.normal, a', h') else (.exit j, a', h')
    | e => (e, a', h')
  | .loop x, a, h => loopM (codeM P call code k x) k a h
  | .scope x, a, h => bindO (codeM P call code k x a h) fun e a' h' => match e with
    | .goto l => match findLabel x l with
      | some rest => scopeN code x k rest a' h'
      | none => none
    | e => some [(e, a', h')]
  | .exit id, a, h => some [(.exit id, a, h)]
  | .goto l, a, h => some [(.goto l, a, h)]
  | .ret, a, h => some [(.ret, a, h)]
  | .rangeFunc g ps x y, a, h => match a.opnd P g with
    | some (.func (.func f) first captured) => if hasBody P f && rndB a.rnd h then match call f (first.toList ++ .chan (some h.size) :: captured.toList).toArray (h.push (.loop (recOf a ps x y)) none) with
      | some (_, _, h') => match loopAt h' h.size with
        | some r => if r.1.state ≠ .busy then match r.1.pending with
          | none => some [(.normal, a, h'.put h.size none)]
          | some .ret => some [(.ret, a, h'.put h.size none)]
          | some (.exit i) => some [(.exit i, a, h'.put h.size none)]
          | some (.goto i) => some [(.goto i, a, h'.put h.size none)]
          | _ => none
          else none
        | none => none
      | none => none
      else none
    | _ => none
  | _, _, _ => none
  where
  scopeN (code : CodeF) (c : Code) : Nat → Code → AA → AH → Option Outs
  | 0, _, _, _ => none
  | n + 1, d, a, h => bindO (code d a h) fun e a' h' => match e with
    | .goto l => match findLabel c l with
      | some rest => scopeN code c n rest a' h'
      | none => none
    | e => some [(e, a', h')]

theorem HL.of_loopM {P : Program} {c : Code} {body : AA → AH → Option Outs} (hb : ∀ a h L, body a h = some L → HW P c a h fun e a' h' => (e, a', h') ∈ L) : ∀ (k : Nat) {a : AA} {h : AH} {L : Outs}, loopM body k a h = some L → HL P c a h fun e a' h' => (e, a', h') ∈ L := by
  intro k
  induction k with
  | zero => intro a h L hh; cases hh
  | succ k ih =>
    intro a h L hh
    simp only [loopM] at hh
    obtain ⟨l, h1, h2⟩ := bindO_eq hh
    refine HL.round ((hb a h l h1).mono fun e a' h' hm => ?_)
    obtain ⟨m, g1, g2⟩ := goO_mem h2 e a' h' hm
    cases e with
    | normal => exact HL_mono (ih g1) fun e a h hx => g2 _ hx
    | _ => cases g1; exact g2 _ (by simp)
  where
  HL_mono {P : Program} {c : Code} {a : AA} {h : AH} {Q R : HX → AA → AH → Prop} (hh : HL P c a h Q) (hr : ∀ e a h, Q e a h → R e a h) : HL P c a h R := fun B ro E w x r rx b k cs hro => by
    obtain ⟨e2, a2, w2, q2, arr⟩ := hh B ro E w x r rx b k cs hro
    exact ⟨e2, a2, w2, q2.mono hr, arr⟩
end Go.Ab

/- AbExec2 -/
namespace Go.Ab
set_option linter.unusedVariables false
set_option linter.unusedSimpArgs false

theorem HW.seq {P : Program} {p q : Code} {a : AA} {h : AH} {Q : HX → AA → AH → Prop} (hh : HW P p a h (seqK (fun a h => HW P q a h Q) Q)) : HW P (.seq p q) a h Q := by
  intro B ro E w x r rx
  refine wpIn_seq (wpIn_mono (hh B ro E w x r rx) ?_)
  rintro e y w' ⟨hx, a', h', E', h1, h2, h3, h4, h6⟩
  cases hx with
  | normal =>
    cases e with
    | normal => exact wpIn_mono (h6 B ro E' w' y h2 h4) fun e y w hp => hp.ext h3
    | _ => cases h1
  | _ =>
    cases e <;> first
      | (cases h1; done)
      | exact ⟨_, a', h', E', h1, h2, h3, h4, h6⟩

theorem HW.block {P : Program} {id : Nat} {p : Code} {a : AA} {h : AH} {Q : HX → AA → AH → Prop} (hh : HW P p a h (blockK id Q)) : HW P (.block id p) a h Q := by
  intro B ro E w x r rx
  refine wpIn_block (wpIn_mono (hh B ro E w x r rx) ?_)
  rintro e y w' ⟨hx, a', h', E', h1, h2, h3, h4, h6⟩
  cases hx with
  | exit i =>
    cases e with
    | exit j =>
      have h1' : i = j := h1
      subst h1'
      simp only [blockK] at h6
      simp only [Exit.inBlock]
      split at h6
      · rename_i e; rw [if_pos e]; exact ⟨.normal, a', h', E', trivial, h2, h3, h4, h6⟩
      · rename_i e; rw [if_neg e]; exact ⟨.exit i, a', h', E', rfl, h2, h3, h4, h6⟩
    | _ => cases h1
  | _ =>
    cases e <;> first
      | (cases h1; done)
      | exact ⟨_, a', h', E', h1, h2, h3, h4, h6⟩

theorem HW.cond {P : Program} {c : Operand} {p q : Code} {a : AA} {h : AH} {b : Bool} {Q : HX → AA → AH → Prop} (hb : a.opnd P c = some (.bool b)) (hh : if b then HW P p a h Q else HW P q a h Q) : HW P (.cond c p q) a h Q := by
  intro B ro E w x r rx
  have hv := rx.rt.opnd r c _ hb
  generalize hx : x.eval c = u at hv
  cases hv
  cases b with
  | true => exact wpIn_cond_true hx ((by simpa using hh : HW P p a h Q) B ro E w x r rx)
  | false => exact wpIn_cond_false hx ((by simpa using hh : HW P q a h Q) B ro E w x r rx)

theorem HW.loop {P : Program} {p : Code} {a : AA} {h : AH} {Q : HX → AA → AH → Prop} (hh : HL P p a h Q) : HW P (.loop p) a h Q := fun B ro E w x r rx => LoopW.wp (hh B ro E w x r rx)
theorem HW.scope {P : Program} {p : Code} {a : AA} {h : AH} {Q : HX → AA → AH → Prop} (hh : HS P p p a h Q) : HW P (.scope p) a h Q := fun B ro E w x r rx => ScopeW.wp (hh B ro E w x r rx)

theorem HS_mono {P : Program} {c d : Code} {a : AA} {h : AH} {Q R : HX → AA → AH → Prop} (hh : HS P c d a h Q) (hr : ∀ e a h, Q e a h → R e a h) : HS P c d a h R := fun B ro E w x r rx b k cs hro => by
  obtain ⟨e2, a2, w2, q2, arr⟩ := hh B ro E w x r rx b k cs hro
  exact ⟨e2, a2, w2, q2.mono hr, arr⟩

theorem HS.of_scopeN {P : Program} {code : CodeF} (hcd : CodeH P code) {c : Code} : ∀ (n : Nat) {d : Code} {a : AA} {h : AH} {L : Outs}, codeM.scopeN code c n d a h = some L → HS P c d a h fun e a' h' => (e, a', h') ∈ L := by
  intro n
  induction n with
  | zero => intro d a h L hh; cases hh
  | succ n ih =>
    intro d a h L hh
    simp only [codeM.scopeN] at hh
    obtain ⟨l, h1, h2⟩ := bindO_eq hh
    refine HS.run ((hcd d a h l h1).mono fun e a' h' hm => ?_)
    obtain ⟨m, g1, g2⟩ := goO_mem h2 e a' h' hm
    cases e with
    | goto i =>
      simp only [scopeK]
      simp only at g1
      split at g1
      · rename_i rest hf
        rw [hf]
        exact HS_mono (ih g1) fun e a h hx => g2 _ hx
      · cases g1
    | _ => cases g1; exact g2 _ (by simp)

theorem HC.of_call {P : Program} {call : CallF} (hc : CallOk P call) {f : FuncId} {args : Array Value} {h h' : AH} {v : Value} {q : Bool} (hh : call f args h = some (v, q, h')) : HC P f args h fun r g => r = .ret v ∧ g = h' :=
  fun E w args' r ra => ((hc f args h v q h' hh).2 E w args' r ra).mono fun e w' ⟨E', v', e1, e2, e3, e4⟩ => ⟨E', .ret v, h', by subst e1; exact e4, e2, e3, rfl, rfl⟩

theorem codeM_H {P : Program} {call : CallF} {code : CodeF} (hcl : CallOk P call) (hcd : CodeH P code) (k : Nat) : CodeH P (codeM P call code k) := by
  intro c
  induction c with
  | skip => intro a h L hh B ro E w x r rx; cases hh; exact wpIn_skip ⟨.normal, a, h, E, trivial, r, .refl E w, rx, by simp⟩
  | label l => intro a h L hh B ro E w x r rx; cases hh; exact wpIn_label ⟨.normal, a, h, E, trivial, r, .refl E w, rx, by simp⟩
  | exit id => intro a h L hh B ro E w x r rx; cases hh; exact wpIn_exit ⟨.exit id, a, h, E, rfl, r, .refl E w, rx, by simp⟩
  | goto l => intro a h L hh B ro E w x r rx; cases hh; exact wpIn_goto ⟨.goto l, a, h, E, rfl, r, .refl E w, rx, by simp⟩
  | ret => intro a h L hh B ro E w x r rx; cases hh; exact wpIn_ret ⟨.ret, a, h, E, trivial, r, .refl E w, rx, by simp⟩
  | region id ops draw =>
    intro a h L hh B ro E w x r rx
    simp only [codeM] at hh
    cases draw with
    | false => exact wpR_region (opsM_ok hcl hcd _ (by simpa using hh) (fun e a' h' hm => hm) r (.refl E w) rx)
    | true =>
      simp only [if_true] at hh
      split at hh
      · rename_i a₂ h₂ hr
        cases hh
        exact drawRun_ok hcl hr r rx.rt rfl fun E' w' y q1 q2 q3 q4 => ⟨.normal, a₂, h₂, E', trivial, q1, q2, rx.next q2 q3 q4 (drawRun_rnd hr), by simp⟩
      · cases hh
  | seq p q ihp ihq =>
    intro a h L hh
    simp only [codeM] at hh
    obtain ⟨l, h1, h2⟩ := bindO_eq hh
    refine HW.seq ((ihp a h l h1).mono fun e a' h' hm => ?_)
    obtain ⟨m, g1, g2⟩ := goO_mem h2 e a' h' hm
    cases e with
    | normal => exact (ihq a' h' m g1).mono fun e a h hx => g2 _ hx
    | _ => cases g1; exact g2 _ (by simp)
  | cond c p q ihp ihq =>
    intro a h L hh
    simp only [codeM] at hh
    split at hh
    · rename_i hb; exact HW.cond hb (by simpa using ihp a h L hh)
    · rename_i hb; exact HW.cond hb (by simpa using ihq a h L hh)
    · cases hh
  | block id p ihp =>
    intro a h L hh
    simp only [codeM] at hh
    rw [Option.map_eq_some_iff] at hh
    obtain ⟨l, h1, rfl⟩ := hh
    refine HW.block ((ihp a h l h1).mono fun e a' h' hm => ?_)
    have hm' := List.mem_map_of_mem (f := fun (x : HX × AA × AH) => match x with | (e, a', h') => match e with | .exit j => if j = id then (HX.normal, a', h') else (.exit j, a', h') | e => (e, a', h')) hm
    cases e with
    | exit j =>
      simp only [blockK]
      simp only at hm'
      split at hm'
      · rename_i e; rw [if_pos e]; exact hm'
      · rename_i e; rw [if_neg e]; exact hm'
    | _ => exact hm'
  | loop p ihp =>
    intro a h L hh
    exact HW.loop (HL.of_loopM (fun a h L hl => ihp a h L hl) k hh)
  | scope p ihp =>
    intro a h L hh
    simp only [codeM] at hh
    obtain ⟨l, h1, h2⟩ := bindO_eq hh
    refine HW.scope (HS.run ((ihp a h l h1).mono fun e a' h' hm => ?_))
    obtain ⟨m, g1, g2⟩ := goO_mem h2 e a' h' hm
    cases e with
    | goto i =>
      simp only [scopeK]
      simp only at g1
      split at g1
      · rename_i rest hf
        rw [hf]
        exact HS_mono (HS.of_scopeN hcd k g1) fun e a h hx => g2 _ hx
      · cases g1
    | _ => cases g1; exact g2 _ (by simp)
  | rangeFunc g ps p q ihp ihq =>
    intro a h L hh
    simp only [codeM] at hh
    split at hh
    case h_2 => cases hh
    rename_i f first captured hg
    split at hh
    case isFalse => cases hh
    rename_i hb
    rw [Bool.and_eq_true] at hb
    split at hh
    case h_2 => cases hh
    rename_i v fl h' hcall
    split at hh
    case h_2 => cases hh
    rename_i r hr
    split at hh
    case isFalse => cases hh
    rename_i hst
    refine range_ok hg (ar := a) ⟨?_, hb.1, ((HC.of_call hcl hcall).mono fun res g2 e1 => ?_)⟩ fun E t rt => rt
    · unfold rndP
      have h2 := hb.2
      unfold rndB at h2
      split
      · trivial
      · rename_i k0 hk
        rw [hk] at h2
        exact h2
    · obtain ⟨rfl, rfl⟩ := e1
      refine bq_of hr ⟨hst, ?_⟩
      unfold jumpK jumpX
      split at hh
      · rename_i e; cases hh; rw [e]; simp
      · rename_i e; cases hh; rw [e]; simp
      · rename_i e; cases hh; rw [e]; simp
      · rename_i e; cases hh; rw [e]; simp
      · cases hh
  | _ => intro a h L hh; cases hh

theorem loopM_logs {body : AA → AH → Option Outs} (hb : ∀ a h L, body a h = some L → ∀ x ∈ L, Logs h x.2.2) : ∀ (k : Nat) {a : AA} {h : AH} {L : Outs}, loopM body k a h = some L → ∀ x ∈ L, Logs h x.2.2 := by
  intro k
  induction k with
  | zero => intro a h L hh; cases hh
  | succ k ih =>
    intro a h L hh x hx
    simp only [loopM] at hh
    obtain ⟨l, h1, h2⟩ := bindO_eq hh
    obtain ⟨e, a', h', m, g1, g2, g3⟩ := goO_back h2 x hx
    have := hb a h l h1 _ g1
    cases e with
    | normal => exact this.trans (ih g2 x g3)
    | _ => cases g2; rw [List.mem_singleton.1 g3]; exact this

theorem scopeN_logs {code : CodeF} (hcd : CodeL code) {c : Code} : ∀ (n : Nat) {d : Code} {a : AA} {h : AH} {L : Outs}, codeM.scopeN code c n d a h = some L → ∀ x ∈ L, Logs h x.2.2 := by
  intro n
  induction n with
  | zero => intro d a h L hh; cases hh
  | succ n ih =>
    intro d a h L hh x hx
    simp only [codeM.scopeN] at hh
    obtain ⟨l, h1, h2⟩ := bindO_eq hh
    obtain ⟨e, a', h', m, g1, g2, g3⟩ := goO_back h2 x hx
    have := hcd d a h l h1 _ g1
    cases e with
    | goto i =>
      simp only at g2
      split at g2
      · exact this.trans (ih g2 x g3)
      · cases g2
    | _ => cases g2; rw [List.mem_singleton.1 g3]; exact this

theorem codeM_logs {P : Program} {call : CallF} {code : CodeF} (hcl : CallLogs call) (hcd : CodeL code) (k : Nat) : CodeL (codeM P call code k) := by
  have one : ∀ {h : AH} {e : HX} {a : AA} {L : Outs}, some [(e, a, h)] = some L → ∀ x ∈ L, Logs h x.2.2 := by
    intro h e a L hh x hx
    cases hh
    rw [List.mem_singleton.1 hx]
    exact .refl _
  intro c
  induction c with
  | region id ops draw =>
    intro a h L hh
    simp only [codeM] at hh
    cases draw with
    | false => exact opsM_logs hcl hcd _ (by simpa using hh)
    | true =>
      simp only [if_true] at hh
      split at hh
      · rename_i hr
        cases hh
        intro x hx
        rw [List.mem_singleton.1 hx]
        exact drawRun_logs hcl hr
      · cases hh
  | seq p q ihp ihq =>
    intro a h L hh x hx
    simp only [codeM] at hh
    obtain ⟨l, h1, h2⟩ := bindO_eq hh
    obtain ⟨e, a', h', m, g1, g2, g3⟩ := goO_back h2 x hx
    have := ihp a h l h1 _ g1
    cases e with
    | normal => exact this.trans (ihq _ _ _ g2 x g3)
    | _ => cases g2; rw [List.mem_singleton.1 g3]; exact this
  | cond c p q ihp ihq =>
    intro a h L hh
    simp only [codeM] at hh
    split at hh
    · exact ihp a h L hh
    · exact ihq a h L hh
    · cases hh
  | block id p ihp =>
    intro a h L hh x hx
    simp only [codeM] at hh
    rw [Option.map_eq_some_iff] at hh
    obtain ⟨l, h1, rfl⟩ := hh
    obtain ⟨⟨e, a', h'⟩, hy, rfl⟩ := List.mem_map.1 hx
    have := ihp a h l h1 _ hy
    cases e with
    | exit j => simp only; split <;> exact this
    | _ => exact this
  | loop p ihp =>
    intro a h L hh
    exact loopM_logs (fun a h L hl => ihp a h L hl) k hh
  | scope p ihp =>
    intro a h L hh x hx
    simp only [codeM] at hh
    obtain ⟨l, h1, h2⟩ := bindO_eq hh
    obtain ⟨e, a', h', m, g1, g2, g3⟩ := goO_back h2 x hx
    have := ihp a h l h1 _ g1
    cases e with
    | goto i =>
      simp only at g2
      split at g2
      · exact this.trans (scopeN_logs hcd k g2 x g3)
      · cases g2
    | _ => cases g2; rw [List.mem_singleton.1 g3]; exact this
  | rangeFunc g ps p q ihp ihq =>
    intro a h L hh
    simp only [codeM] at hh
    split at hh
    case h_2 => cases hh
    split at hh
    case isFalse => cases hh
    split at hh
    case h_2 => cases hh
    rename_i v fl h' hcall
    have hl := (Logs.push h (.loop (recOf a ps p q)) none).trans (hcl _ _ _ _ _ _ hcall)
    split at hh
    case h_2 => cases hh
    split at hh
    case isFalse => cases hh
    have fin : ∀ {e : HX}, some [(e, a, h'.put h.size none)] = some L → ∀ x ∈ L, Logs h x.2.2 := by
      intro e he x hx
      cases he
      rw [List.mem_singleton.1 hx]
      exact hl.trans (.put _ _ _)
    split at hh
    · exact fin hh
    · exact fin hh
    · exact fin hh
    · exact fin hh
    · cases hh
  | skip => intro a h L hh; exact one hh
  | label l => intro a h L hh; exact one hh
  | exit id => intro a h L hh; exact one hh
  | goto l => intro a h L hh; exact one hh
  | ret => intro a h L hh; exact one hh
  | _ => intro a h L hh; cases hh

theorem HC.bodyH {P : Program} {f : FuncId} {fn : Func} {c : Code} {args : List Value} {h : AH} {Q : Res → AH → Prop} (hf : P.funcs[f]? = some fn) (hb : fn.body = some c)
    (hh : HW P c (argA args fn.ntmps) h (retK P fn.results.toList Q)) : HC P f args.toArray h Q := by
  intro E w args' r ra
  refine callsIn_wide.1 (callsIn_of_wp_marks (n := 0) hf hb trivial ?_)
  have hst := RT.start ra fn.ntmps
  have e0 : (⟨tmsOf 0 args.toArray.toList .leaf, args.toArray.size + (fn.ntmps - args.toArray.size), none⟩ : AA) = argA args fn.ntmps := by simp [argA]
  rw [e0] at hst
  refine wpIn_mono (hh w.heap.size none E w _ r ⟨hst, trivial, XD.nil E w⟩) ?_
  rintro e y w' ⟨hx, a', h', E', h1, h2, h3, h4, h6⟩
  have leave : ∀ {w'' : World}, w''.heap.size = w'.heap.size → (∀ n, n < w.heap.size → w''.heap[n]? = w'.heap[n]?) → (∀ n, (E'.fro n).isSome = true → w''.heap[n]? = w'.heap[n]?) →
      w''.os = w'.os → w''.output = w'.output → w''.tape = w'.tape → w''.drawn = w'.drawn → Ext E w E' w'' := fun k2 k3 k5 k6 k7 k8 k9 => by
    refine ⟨h3.le, h3.range, by rw [k2]; exact h3.size, fun n hn hj => ?_, k6.trans h3.os, k7.trans h3.output, k8.trans h3.tape, by rw [k9]; exact h3.drawn, fun n hn => ?_⟩
    · rw [k3 n hn, h3.frame n hn hj]
    · obtain ⟨c, hc⟩ := Option.isSome_iff_exists.1 hn
      rw [k5 n (by rw [h3.le.fro n c hc]; rfl), h3.ice n hn]
  have fin : bq (resultsOf P a' h' fn.results.toList) (fun vs => Q (.ret (oneOf vs)) h') → LeavesInM Fence.wide 0 P fn y.tmps (fun e w' => ∃ E' r h', Res.rel E' r e ∧ RW P E' h' w' ∧ Ext E w E' w' ∧ Q r h') y.defers .returning w' := by
    intro hq
    obtain ⟨vs, e1, hq⟩ := bq_eq hq
    refine leaves_marks _ (by simp) h2 h4.xd fun w'' k1 k2 k3 k4 k5 k6 k7 k8 k9 => ?_
    obtain ⟨v', g1, g2⟩ := results_run k1 h4.rt e1
    exact ⟨v', g1, E', .ret (oneOf vs), h', g2, k1, leave k2 k3 k5 k6 k7 k8 k9, hq⟩
  cases hx with
  | normal =>
    cases e with
    | normal => exact fin h6
    | _ => cases h1
  | ret =>
    cases e with
    | ret => exact fin h6
    | _ => cases h1
  | panic v =>
    cases e with
    | panic chain =>
      refine leaves_marks _ (by simp) h2 h4.xd fun w'' k1 k2 k3 k4 k5 k6 k7 k8 k9 => ?_
      exact ⟨E', .pan v, h', h1, k1, leave k2 k3 k5 k6 k7 k8 k9, h6⟩
    | _ => cases h1
  | _ => cases h6


/-! heaps that are the same -/

def oeq : Obj → Obj → Bool
  | .cells c e f, .cells c' e' f' => veq.vall 60 c.toList c'.toList && e == e' && f == f'
  | .map es t, .map es' t' => es.toList.length == es'.toList.length && (es.toList.zip es'.toList).all (fun (x, y) => veq 60 x.key y.key && veq 60 x.val y.val && x.born == y.born) && t == t'
  | .stringIter s p, .stringIter s' p' => decide (s = s') && p == p'
  | .mapIter m a l b, .mapIter m' a' l' b' => m == m' && a == a' && l == l' && b == b'
  | _, _ => false

theorem vall_eq : ∀ (n : Nat) (l k : List Value), veq.vall n l k = true → l = k := by
  intro n l
  induction l with
  | nil => intro k h; cases k with
    | nil => rfl
    | cons _ _ => cases h
  | cons x l ih =>
    intro k h
    cases k with
    | nil => cases h
    | cons y k =>
      simp only [veq.vall, Bool.and_eq_true] at h
      rw [veq_eq n x y h.1, ih k h.2]

theorem oeq_eq {o p : Obj} (h : oeq o p = true) : o = p := by
  unfold oeq at h
  split at h
  · simp only [Bool.and_eq_true, beq_iff_eq] at h
    obtain ⟨⟨h1, h2⟩, h3⟩ := h
    rw [Array.ext' (vall_eq _ _ _ h1), h2, h3]
  · rename_i es t es' t'
    simp only [Bool.and_eq_true, beq_iff_eq] at h
    obtain ⟨⟨h1, h2⟩, h3⟩ := h
    have : es.toList = es'.toList := by
      apply List.ext_getElem h1
      intro i hi hi'
      have := List.all_eq_true.1 h2 (es.toList[i], es'.toList[i]) (by
        rw [List.mem_iff_getElem]
        exact ⟨i, by simp at hi hi' ⊢; omega, by simp⟩)
      simp only [Bool.and_eq_true, beq_iff_eq] at this
      obtain ⟨⟨a, b⟩, c⟩ := this
      have a' := veq_eq _ _ _ a
      have b' := veq_eq _ _ _ b
      cases hx : es.toList[i]
      cases hy : es'.toList[i]
      rw [hx, hy] at a' b' c
      simp only at a' b' c
      rw [a', b', c]
    rw [Array.ext' this, h3]
  · simp only [Bool.and_eq_true, beq_iff_eq, decide_eq_true_eq] at h
    rw [h.1, h.2]
  · simp only [Bool.and_eq_true, beq_iff_eq] at h
    obtain ⟨⟨⟨a, b⟩, c⟩, d⟩ := h
    rw [a, b, c, d]
  · cases h

def teq : T (Obj × Option Nat) → T (Obj × Option Nat) → Bool
  | .leaf, .leaf => true
  | .node v l r, .node v' l' r' => (match v, v' with
    | none, none => true
    | some (o, s), some (o', s') => s == s' && oeq o o'
    | _, _ => false) && teq l l' && teq r r'
  | _, _ => false

theorem teq_eq : ∀ {t u : T (Obj × Option Nat)}, teq t u = true → t = u := by
  intro t
  induction t with
  | leaf => intro u h; cases u with
    | leaf => rfl
    | node _ _ _ => cases h
  | node v l r ihl ihr =>
    intro u h
    cases u with
    | leaf => cases h
    | node v' l' r' =>
      simp only [teq, Bool.and_eq_true] at h
      obtain ⟨⟨h1, h2⟩, h3⟩ := h
      rw [ihl h2, ihr h3]
      congr 1
      split at h1
      · rfl
      · simp only [Bool.and_eq_true, beq_iff_eq] at h1
        rw [h1.1, oeq_eq h1.2]
      · cases h1

def heq (h g : AH) : Bool := h.size == g.size && teq h.tree g.tree
theorem heq_get {h g : AH} (e : heq h g = true) : h.size = g.size ∧ ∀ k, h.get k = g.get k := by
  unfold heq at e
  simp only [Bool.and_eq_true, beq_iff_eq] at e
  exact ⟨e.1, fun k => by unfold AH.get; rw [teq_eq e.2]⟩

/-- elements out of cells -/
def chunk (z : Nat) : Nat → List Value → List Value
  | 0, _ => []
  | n + 1, l => (if z = 1 then l.headD undef else .agg (l.take z).toArray) :: chunk z n (l.drop z)

/-- a slice is said to stay as it is -/
def frz (P : Program) (v : Value) (h : AH) : Option (Value × AH) := match v with
  | .slice (some ⟨k, off, none⟩) len cap => match h.get k with
    | some (.cells c e fz, s) => match P.info? e with
      | some i => let l := chunk i.size len (c.extract off (off + len * i.size)).toList
        if fz = (0, 0) ∧ 0 < i.size ∧ len ≤ cap ∧ off + len * i.size ≤ c.size ∧ l.length = len ∧ (l.all fun v => v.cells.size == i.size) = true ∧ veq.vall 60 (flatC l) (c.extract off (off + len * i.size)).toList = true then
          some (VSl l, h.put k (some (.cells c e (0, 1), s))) else none
      | none => none
    | _ => none
  | _ => none

theorem frz_gh {P : Program} {v v' : Value} {h h' : AH} (hh : frz P v h = some (v', h')) : Gh P h v h' v' := by
  unfold frz at hh
  split at hh
  case h_2 => cases hh
  rename_i k off len cap
  split at hh
  case h_2 => cases hh
  rename_i c e fz s hg
  split at hh
  case h_2 => cases hh
  rename_i i hi
  simp only at hh
  split at hh
  case isFalse => cases hh
  rename_i hc
  obtain ⟨rfl, h1, h2, h3, h4, h5, h6⟩ := hc
  cases hh
  refine Gh.slice hg h1 (fun v hv => by simpa using List.all_eq_true.1 h5 v hv) h4 h2 (fun j v hv => ?_) h3
  rw [vall_eq _ _ _ h6] at hv
  rw [Array.getElem?_toList, Array.getElem?_extract] at hv
  split at hv
  · exact hv
  · cases hv
theorem frz_logs {P : Program} {v v' : Value} {h h' : AH} (hh : frz P v h = some (v', h')) : Logs h h' := by
  unfold frz at hh
  split at hh
  case h_2 => cases hh
  split at hh
  case h_2 => cases hh
  split at hh
  case h_2 => cases hh
  simp only at hh
  split at hh
  case isFalse => cases hh
  cases hh
  exact .put _ _ _

def resM (P : Program) (h : AH) (res : List ResultVar) (fr : Bool) : HX × AA × AH → Option (Value × Bool × AH)
  | (.normal, a, h') | (.ret, a, h') => match resultsOf P a h' res with
    | some vs => if fr then match frz P (oneOf vs) h' with
      | some r => some (r.1, tidy h r.2 r.1)
      | none => some (oneOf vs, tidy h h' (oneOf vs))
      else some (oneOf vs, tidy h h' (oneOf vs))
    | none => none
  | _ => none

theorem resM_eq {P : Program} {h : AH} {res : List ResultVar} {fr : Bool} {x : HX × AA × AH} {s : Value × Bool × AH} (hh : resM P h res fr x = some s) :
    (x.1 = .normal ∨ x.1 = .ret) ∧ ∃ vs g, resultsOf P x.2.1 x.2.2 res = some vs ∧ Gh P x.2.2 (oneOf vs) g s.1 ∧ Logs x.2.2 g ∧ s.2 = tidy h g s.1 := by
  have key : ∀ {a : AA} {h' : AH}, (match resultsOf P a h' res with
    | some vs => if fr then match frz P (oneOf vs) h' with
      | some r => some (r.1, tidy h r.2 r.1)
      | none => some (oneOf vs, tidy h h' (oneOf vs))
      else some (oneOf vs, tidy h h' (oneOf vs))
    | none => none) = some s → ∃ vs g, resultsOf P a h' res = some vs ∧ Gh P h' (oneOf vs) g s.1 ∧ Logs h' g ∧ s.2 = tidy h g s.1 := by
    intro a h' e
    split at e
    case h_2 => cases e
    rename_i vs hvs
    have plain : some (oneOf vs, tidy h h' (oneOf vs)) = some s → ∃ vs g, resultsOf P a h' res = some vs ∧ Gh P h' (oneOf vs) g s.1 ∧ Logs h' g ∧ s.2 = tidy h g s.1 := by
      intro e
      have e1 := congrArg Prod.fst (Option.some.inj e)
      have e2 := congrArg Prod.snd (Option.some.inj e)
      simp only at e1 e2
      exact ⟨vs, h', hvs, by rw [← e1]; exact .refl P h' _, .refl _, by rw [← e2, ← e1]⟩
    split at e
    · split at e
      · rename_i r hr
        have e1 := congrArg Prod.fst (Option.some.inj e)
        have e2 := congrArg Prod.snd (Option.some.inj e)
        simp only at e1 e2
        have hr' : frz P (oneOf vs) h' = some (r.1, r.2) := hr
        exact ⟨vs, r.2, hvs, by rw [← e1]; exact frz_gh hr', frz_logs hr', by rw [← e2, ← e1]⟩
      · exact plain e
    · exact plain e
  unfold resM at hh
  split at hh
  · exact ⟨.inl rfl, key hh⟩
  · exact ⟨.inr rfl, key hh⟩
  · cases hh

def oneF (P : Program) (h : AH) (res : List ResultVar) (fr : Bool) : Outs → Option (Value × Bool × AH)
  | [] => none
  | x :: l => match resM P h res fr x with
    | some r => if l.all fun y => match resM P h res fr y with
      | some s => veq 60 s.1 r.1 && heq s.2.2 r.2.2
      | none => false
      then some r else none
    | none => none

/-- all ways come to the same; or they do if the slice that is given back is said to stay as it is -/
def oneM (P : Program) (h : AH) (res : List ResultVar) (L : Outs) : Option (Value × Bool × AH) := match oneF P h res false L with
  | some r => some r
  | none => oneF P h res true L

theorem oneM_eq {P : Program} {h : AH} {res : List ResultVar} {L : Outs} {r : Value × Bool × AH} (hh : oneM P h res L = some r) :
    (∃ x fr, x ∈ L ∧ resM P h res fr x = some r) ∧ ∃ fr, ∀ x ∈ L, ∃ s, resM P h res fr x = some s ∧ s.1 = r.1 ∧ s.2.2.size = r.2.2.size ∧ ∀ k, s.2.2.get k = r.2.2.get k := by
  have key : ∀ fr, oneF P h res fr L = some r → (∃ x fr, x ∈ L ∧ resM P h res fr x = some r) ∧ ∃ fr, ∀ x ∈ L, ∃ s, resM P h res fr x = some s ∧ s.1 = r.1 ∧ s.2.2.size = r.2.2.size ∧ ∀ k, s.2.2.get k = r.2.2.get k := by
    intro fr hh
    cases L with
    | nil => simp [oneF] at hh
    | cons y l =>
      simp only [oneF] at hh
      split at hh
      case h_2 => cases hh
      rename_i s hs
      split at hh
      case isFalse => cases hh
      rename_i hall
      cases hh
      refine ⟨⟨y, fr, by simp, hs⟩, fr, fun x hx => ?_⟩
      rcases List.mem_cons.1 hx with rfl | hx
      · exact ⟨_, hs, rfl, rfl, fun _ => rfl⟩
      · have := List.all_eq_true.1 hall x hx
        split at this
        · rename_i s2 hs2
          simp only [Bool.and_eq_true] at this
          obtain ⟨g1, g2⟩ := heq_get this.2
          exact ⟨s2, hs2, veq_eq _ _ _ this.1, g1, g2⟩
        · cases this
  unfold oneM at hh
  split at hh
  · rename_i s hs; cases hh; exact key false hs
  · exact key true hh

def fnStep (P : Program) (call : CallF) (code : CodeF) (n : Nat) : CallF := fun f args h => match P.funcs[f]? with
  | some fn => match fn.body with
    | some c => match codeM P call code n c (argA args.toList fn.ntmps) { h with log := [] } with
      | some L => oneM P h fn.results.toList L
      | none => none
    | none => none
  | none => none

theorem fnStep_logs {P : Program} {call : CallF} {code : CodeF} (hcl : CallLogs call) (hcd : CodeL code) (n : Nat) : ∀ f args h v q h', fnStep P call code n f args h = some (v, q, h') → Logs h h' ∧ (q = false → h' = h) := by
  intro f args h v q h' hh
  unfold fnStep at hh
  split at hh
  case h_2 => cases hh
  split at hh
  case h_2 => cases hh
  split at hh
  case h_2 => cases hh
  rename_i L hL
  obtain ⟨⟨x, fr, hx, hr⟩, _⟩ := oneM_eq hh
  have hlg := codeM_logs hcl hcd n _ _ _ _ hL x hx
  obtain ⟨_, vs, g, g1, g2, g3, g4⟩ := resM_eq hr
  have a1 : (tidy h g v).1 = q := (congrArg Prod.fst g4).symm
  have a2 : (tidy h g v).2 = h' := (congrArg Prod.snd g4).symm
  rw [← a1, ← a2]
  exact tidy_logs (hlg.trans g3)

theorem fnStep_ok {P : Program} {call : CallF} {code : CodeF} (hcl : CallOk P call) (hcd : CodeH P code) (hcl2 : CallLogs call) (hcd2 : CodeL code) (n : Nat) : CallOk P (fnStep P call code n) := by
  intro f args h v q h' hh
  refine ⟨(fnStep_logs hcl2 hcd2 n f args h v q h' hh).2, fun E w args' r ra => ?_⟩
  unfold fnStep at hh
  split at hh
  case h_2 => cases hh
  rename_i fn hf
  split at hh
  case h_2 => cases hh
  rename_i c hb
  split at hh
  case h_2 => cases hh
  rename_i L hL
  have r0 : RW P E { h with log := [] } w := r.less (Nat.le_refl _) fun k y hk => hk
  have hlogs := codeM_logs hcl2 hcd2 n _ _ _ _ hL
  obtain ⟨_, fr, each⟩ := oneM_eq hh
  have hw := codeM_H hcl hcd n c _ _ _ hL
  have hc : HC P f args.toList.toArray { h with log := [] } fun res g => ∃ u g₀ g', res = .ret u ∧ Gh P g u g₀ v ∧ Logs { h with log := [] } g₀ ∧ g' = (tidy h g₀ v).2 ∧ g'.size = h'.size ∧ ∀ k, g'.get k = h'.get k := by
    refine HC.bodyH hf hb (hw.mono fun e a g hm => ?_)
    obtain ⟨s, s1, s2, s3, s4⟩ := each _ hm
    have hl := hlogs _ hm
    obtain ⟨t0, vs, g₀, t1, t2, t3, t4⟩ := resM_eq s1
    simp only at s2 s3 s4 t0
    rw [s2] at t2 t4
    have fin : bq (resultsOf P a g fn.results.toList) fun vs => ∃ u g₀ g', Res.ret (oneOf vs) = .ret u ∧ Gh P g u g₀ v ∧ Logs { h with log := [] } g₀ ∧ g' = (tidy h g₀ v).2 ∧ g'.size = h'.size ∧ ∀ k, g'.get k = h'.get k :=
      bq_of t1 ⟨_, g₀, s.2.2, rfl, t2, hl.trans t3, congrArg Prod.snd t4, s3, s4⟩
    rcases t0 with rfl | rfl
    · exact fin
    · exact fin
  rw [Array.toArray_toList] at hc
  refine (hc E w args' r0 ra).mono ?_
  rintro e w' ⟨E', res, g, q1, q2, q3, u, g₀, g', rfl, hgh, hl, rfl, hsz, hget⟩
  cases e with
  | returned u' =>
    obtain ⟨E1, r1, x1, v1⟩ := hgh E' w' u' q2 q1
    obtain ⟨E2, p1, p2, p3⟩ := tidy_ok r r1 (q3.trans x1) v1 hl
    exact ⟨E2, u', rfl, p1.less (by omega) (fun k y hk => by rw [hget]; exact hk), p2, p3⟩
  | _ => cases q1

/-- functions of which it is given what they do, and the others by their code -/
def lv (P : Program) (X : CallF) : Nat → CallF × CodeF
  | 0 => (fun _ _ _ => none, fun _ _ _ => none)
  | n + 1 => (fun f args h => match X f args h with
    | some r => some r
    | none => fnStep P (lv P X n).1 (lv P X n).2 n f args h, codeM P (lv P X n).1 (lv P X n).2 n)

theorem lv_logs (P : Program) {X : CallF} (hX : CallLogs X) : ∀ n, CallLogs (lv P X n).1 ∧ CodeL (lv P X n).2 := by
  intro n
  induction n with
  | zero => exact ⟨fun f args h v q h' hh => by (cases hh), fun c a h L hh => by (cases hh)⟩
  | succ n ih =>
    refine ⟨fun f args h v q h' hh => ?_, codeM_logs ih.1 ih.2 n⟩
    simp only [lv] at hh
    split at hh
    · rename_i r hr
      cases hh
      exact hX f args h v q h' hr
    · exact (fnStep_logs ih.1 ih.2 n f args h v q h' hh).1

theorem lv_ok (P : Program) {X : CallF} (hX : CallOk P X) (hl : CallLogs X) : ∀ n, CallOk P (lv P X n).1 ∧ CodeH P (lv P X n).2 := by
  intro n
  induction n with
  | zero => exact ⟨fun f args h v q h' hh => by (cases hh), fun c a h L hh => by (cases hh)⟩
  | succ n ih =>
    have il := lv_logs P hl n
    refine ⟨fun f args h v q h' hh => ?_, codeM_H ih.1 ih.2 n⟩
    simp only [lv] at hh
    split at hh
    · rename_i r hr
      cases hh
      exact hX f args h v q h' hr
    · exact fnStep_ok ih.1 ih.2 il.1 il.2 n f args h v q h' hh

abbrev run (P : Program) (n : Nat) : CallF := (lv P (fun _ _ _ => none) n).1

theorem Ex.of_run {P : Program} (n : Nat) {f : FuncId} {args : Array Value} {h h' : AH} {v : Value} {q : Bool} (hh : run P n f args h = some (v, q, h')) : Ex P f args h v h' :=
  (HC.of_call ((lv_ok P (fun f args h v q h' hh => by cases hh) (fun f args h v q h' hh => by cases hh) n).1) hh).mono fun r g ⟨e1, e2⟩ => ⟨e1, e2⟩

end Go.Ab
