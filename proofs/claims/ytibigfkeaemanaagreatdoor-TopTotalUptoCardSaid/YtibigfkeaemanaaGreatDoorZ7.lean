import Derived.Test.YtibigfkeaemanaaGreatDoorZ6
set_option linter.unusedVariables false
set_option linter.unusedSimpArgs false
section
namespace Go.Ab
open Region
def Good (m:Region.Mode) (ops:Array Oper):List Nat→Prop
 | []=>True
 | i::acc=>Good m ops acc∧i ∉ acc∧∃ o,ops[i]?=some o∧∀ e ∈ o.after,binds m e=true→e.on ∈ acc
theorem Good.drop {m:Region.Mode} {ops:Array Oper}:∀ {l k:List Nat},Good m ops (l++k)→Good m ops k:=by
 intro l
 induction l with
 | nil=>intro k h;exact h
 | cons i l ih=>intro k h;exact ih h.1
theorem Good.nodup {m:Region.Mode} {ops:Array Oper}:∀ {l:List Nat},Good m ops l→l.Nodup:=by
 intro l
 induction l with
 | nil=>intro _;exact List.nodup_nil
 | cons i l ih=>intro h;exact List.nodup_cons.2 ⟨h.2.1,ih h.1⟩
theorem Good.lt {m:Region.Mode} {ops:Array Oper}:∀ {l:List Nat},Good m ops l→∀ i ∈ l,i < ops.size:=by
 intro l
 induction l with
 | nil=>intro _ i hi;cases hi
 | cons j l ih =>
  intro h i hi
  cases hi with
  | head=>obtain ⟨o,ho,_⟩:=h.2.2;exact (Array.getElem?_eq_some_iff.1 ho).1
  | tail _ hi=>exact ih h.1 i hi
def strong (e:Edge):Bool:=match e.ground with
 | .textOnly _ | .gcOnly _=>false
 | _=>true
theorem strong_binds {e:Edge} (h:strong e=true) (m:Region.Mode):binds m e=true:=by
 unfold strong at h
 unfold binds
 cases hg:e.ground <;> simp_all
def okOrd (m:Region.Mode) (ops:Array Oper):List Nat→List Nat→Bool
 | seen,[]=>(List.range ops.size).all fun i=>seen.contains i
 | seen,i::r=>(match ops[i]? with
  | some o=>o.after.toList.all fun e=>!binds m e || seen.contains e.on
  | none=>false) && okOrd m ops (i::seen) r
def backs (ops:Array Oper):Bool:=((List.range ops.size).all fun i=>match ops[i]? with
 | some o=>o.after.toList.all fun e=>(match e.ground with | .gcOnly _=>true | _=>false) || decide (e.on < i)
 | none=>true) && okOrd .gc ops [] (linearise .gc ops 0)
theorem backs_lt' {ops:Array Oper} (h:backs ops=true) {i:Nat} {o:Oper} (ho:ops[i]?=some o):∀ e ∈ o.after,(match e.ground with | .gcOnly _=>true | _=>false)=false→e.on < i:=by
 intro e he hs
 have hi:i < ops.size:=(Array.getElem?_eq_some_iff.1 ho).1
 unfold backs at h
 rw [Bool.and_eq_true] at h
 have h1:=List.all_eq_true.1 h.1 i (List.mem_range.2 hi)
 simp only [ho] at h1
 have h2:=List.all_eq_true.1 h1 e (by simpa using he)
 rw [hs,Bool.false_or] at h2
 exact of_decide_eq_true h2
def Ready (m:Region.Mode) (ops:Array Oper):Prop:=∀ acc:List Nat,(∃ i,i < ops.size∧i ∉ acc)→∃ i o,i < ops.size∧i ∉ acc∧ops[i]?=some o∧∀ e ∈ o.after,binds m e=true→e.on ∈ acc∧e.on < ops.size
theorem ready_least {m:Region.Mode} {ops:Array Oper} (hb:backs ops=true) (hm:m ≠ .gc):Ready m ops:=by
 intro acc hex
 have key:∀ k,(∃ i,i < ops.size∧i ∉ acc∧i ≤ k)→∃ i,i < ops.size∧i ∉ acc∧∀ j,j < i→j ∈ acc:=by
  intro k
  induction k with
  | zero=>rintro ⟨i,h1,h2,h3⟩;exact ⟨i,h1,h2,fun j hj=>by omega⟩
  | succ k ihk =>
   rintro ⟨i,h1,h2,h3⟩
   by_cases hh:∃ i,i < ops.size∧i ∉ acc∧i ≤ k
   ·exact ihk hh
   ·refine ⟨i,h1,h2,fun j hj=>Classical.byContradiction fun hc=>hh ⟨j,by omega,hc,by omega⟩⟩
 obtain ⟨i₀,a1,a2⟩:=hex
 obtain ⟨i,h1,h2,h3⟩:=key i₀ ⟨i₀,a1,a2,Nat.le_refl _⟩
 refine ⟨i,ops[i],h1,h2,Array.getElem?_eq_getElem h1,fun e he hbe=>?_⟩
 have hlt:=backs_lt' hb (Array.getElem?_eq_getElem h1) e he (by
  unfold binds at hbe
  cases hg:e.ground with
  | gcOnly d=>rw [hg] at hbe;simp only [beq_iff_eq] at hbe;exact absurd hbe hm
  | _=>rfl)
 exact ⟨h3 _ hlt,by omega⟩
theorem okOrd_ready {m:Region.Mode} {ops:Array Oper}:∀ (r seen:List Nat),okOrd m ops seen r=true→∀ acc:List Nat,(∀ i ∈ seen,i ∈ acc)→(∀ i ∈ seen,i < ops.size)→(∃ i,i < ops.size∧i ∉ acc) →
  ∃ i o,i < ops.size∧i ∉ acc∧ops[i]?=some o∧∀ e ∈ o.after,binds m e=true→e.on ∈ acc∧e.on < ops.size:=by
 intro r
 induction r with
 | nil =>
  intro seen h acc hs _ ⟨i,h1,h2⟩
  have:=List.all_eq_true.1 h i (List.mem_range.2 h1)
  exact absurd (hs i (by simpa using this)) h2
 | cons i r ih =>
  intro seen h acc hs hl hex
  simp only [okOrd,Bool.and_eq_true] at h
  cases ho:ops[i]? with
  | none=>rw [ho] at h;cases h.1
  | some o =>
   rw [ho] at h
   have hi:i < ops.size:=(Array.getElem?_eq_some_iff.1 ho).1
   by_cases hm:i ∈ acc
   ·refine ih (i::seen) h.2 acc (fun j hj=>?_) (fun j hj=>?_) hex
    ·rcases List.mem_cons.1 hj with rfl | hj
     ·exact hm
     ·exact hs j hj
    ·rcases List.mem_cons.1 hj with rfl | hj
     ·exact hi
     ·exact hl j hj
   ·refine ⟨i,o,hi,hm,ho,fun e he hbe=>?_⟩
    have h1:=List.all_eq_true.1 h.1 e (by simpa using he)
    rw [hbe,Bool.not_true,Bool.false_or] at h1
    have h2:e.on ∈ seen:=by simpa using h1
    exact ⟨hs _ h2,hl _ h2⟩
theorem backs_ready {ops:Array Oper} (hb:backs ops=true) (m:Region.Mode):Ready m ops:=by
 cases m with
 | gc =>
  unfold backs at hb
  rw [Bool.and_eq_true] at hb
  exact fun acc hex=>okOrd_ready _ [] hb.2 acc (fun i h=>by cases h) (fun i h=>by cases h) hex
 | text=>exact ready_least hb (by decide)
 | any=>exact ready_least hb (by decide)
theorem go_good {m:Region.Mode} {ops:Array Oper} (hb:Ready m ops):∀ (fuel t:Nat) (listed:Array Bool) (acc:List Nat),listed.size=ops.size →
  (∀ i,i < ops.size→(listed[i]?=some true ↔ i ∈ acc))→Good m ops acc→acc.length + fuel=ops.size →
  ∃ l,linearise.go m ops fuel t listed acc=l.reverse∧Good m ops l∧l.length=ops.size:=by
 intro fuel
 induction fuel with
 | zero=>intro t listed acc hs hl hg hf;exact ⟨acc,rfl,hg,by omega⟩
 | succ fuel ih =>
  intro t listed acc hs hl hg hf
  simp only [linearise.go]
  generalize hrs:(List.range ops.size).filter (fun i=>!listed.getD i true && ((ops[i]?).map (·.after.all fun e=>!binds m e || listed.getD e.on false)).getD false)=rs
  have hlist:∀ i,i < ops.size→listed.getD i true=decide (i ∈ acc)∧listed.getD i false=decide (i ∈ acc):=by
   intro i hi
   have h1:=hl i hi
   have hlt:i < listed.size:=by omega
   rw [Array.getElem?_eq_getElem hlt] at h1
   rw [Array.getD_eq_getD_getElem?,Array.getD_eq_getD_getElem?,Array.getElem?_eq_getElem hlt]
   simp only [Option.getD_some,Option.some.injEq] at h1 ⊢
   cases hv:listed[i] with
   | true=>rw [hv] at h1;simp [h1.1 rfl]
   | false =>
    rw [hv] at h1
    have:i ∉ acc:=fun hm=>by cases h1.2 hm
    simp [this]
  have hne:rs ≠ []:=by
   -- the least that has not run is ready
   have hex:∃ i,i < ops.size∧i ∉ acc:=by
    apply Classical.byContradiction
    intro hno
    have hall:∀ i ∈ List.range ops.size,i ∈ acc:=fun i hi=>Classical.byContradiction fun hc=>hno ⟨i,List.mem_range.1 hi,hc⟩
    have:=(List.nodup_range (n:=ops.size)).length_le_of_subset hall
    rw [List.length_range] at this
    omega
   obtain ⟨i,o,h1,h2,ho,h3⟩:=hb acc hex
   have:i ∈ rs:=by
    rw [← hrs,List.mem_filter]
    refine ⟨List.mem_range.2 h1,?_⟩
    rw [(hlist i h1).1,ho]
    simp only [h2,decide_false,Bool.not_false,Bool.true_and,Option.map_some,Option.getD_some,Array.all_eq_true']
    intro e he
    cases hbe:binds m e with
    | false=>rfl
    | true =>
     obtain ⟨h4,h5⟩:=h3 e he hbe
     rw [(hlist e.on h5).2]
     simp [h4]
   intro he
   rw [he] at this
   cases this
  have hlen:0 < rs.length:=List.length_pos_iff.2 hne
  have hget:rs[t % rs.length]?=some (rs[t % rs.length]'(Nat.mod_lt _ hlen)):=List.getElem?_eq_getElem _
  rw [hget]
  simp only
  generalize hi:rs[t % rs.length]'(Nat.mod_lt _ hlen)=i
  have him:i ∈ rs:=by rw [← hi];exact List.getElem_mem _
  rw [← hrs,List.mem_filter,List.mem_range] at him
  obtain ⟨h1,h2⟩:=him
  have ho:ops[i]?=some ops[i]:=Array.getElem?_eq_getElem h1
  rw [(hlist i h1).1,ho] at h2
  simp only [Option.map_some,Option.getD_some,Bool.and_eq_true,Bool.not_eq_true',decide_eq_false_iff_not,Array.all_eq_true'] at h2
  refine ih _ _ _ (by simp [hs]) ?_ ⟨hg,h2.1,_,ho,fun e he hbe=>?_⟩ (by simp;omega)
  ·intro j hj
   rw [Array.getElem?_setIfInBounds]
   by_cases e:i=j
   ·subst e
    rw [if_pos rfl,if_pos (by omega)]
    simp
   ·rw [if_neg e,hl j hj]
    constructor
    ·exact fun h=>List.mem_cons_of_mem _ h
    ·intro h
     cases h with
     | head=>exact absurd rfl e
     | tail _ h=>exact h
  ·have h3:=h2.2 e he
   rw [hbe] at h3
   have hlt:e.on < ops.size:=by
    apply Classical.byContradiction
    intro hge
    rw [Array.getD_eq_getD_getElem?,Array.getElem?_eq_none (by omega)] at h3
    cases h3
   rw [(hlist e.on hlt).2] at h3
   simpa using h3
theorem linearise_good {m:Region.Mode} {ops:Array Oper} (hb:backs ops=true) (t:Nat):∃ l,linearise m ops t=l.reverse∧Good m ops l∧l.length=ops.size:=by
 refine go_good (backs_ready hb m) _ _ _ _ (by simp) (fun i hi=>?_) trivial (by simp)
 rw [Array.getElem?_replicate,if_pos hi]
 simp
theorem schedule_good {mixed:Bool} {ops:Array Oper} (hb:backs ops=true) (t:Nat):∃ m l,schedule mixed ops t=l.reverse∧Good m ops l∧l.length=ops.size:=by
 unfold schedule
 split
 ·obtain ⟨l,h⟩:=linearise_good (m:=.any) hb t;exact ⟨_,l,h⟩
 ·obtain ⟨l,h⟩:=linearise_good (m:=if t % 2 == 0 then .text else .gc) hb (t / 2);exact ⟨_,l,h⟩
end Go.Ab
end
section
namespace Go.Ab
section
variable {P:Program} {ρ σ:Operand→Option Value}
theorem listOf_congr:∀ {l:List Operand},(∀ x ∈ l,ρ x=σ x)→listOf ρ l=listOf σ l:=by
 intro l
 induction l with
 | nil=>intro _;rfl
 | cons x l ih=>intro h;simp only [listOf,h x (by simp),ih (fun y hy=>h y (by simp [hy]))]
theorem partsOf_congr:∀ {l:List (Nat × Operand)},(∀ x ∈ l,ρ x.2=σ x.2)→partsOf ρ l=partsOf σ l:=by
 intro l
 induction l with
 | nil=>intro _;rfl
 | cons x l ih =>
  intro h
  obtain ⟨i,x⟩:=x
  simp only [partsOf,h (i,x) (by simp),ih (fun y hy=>h y (by simp [hy]))]
theorem optOf_congr {x:Option Operand} (h:∀ y,x=some y→ρ y=σ y):optOf ρ x=optOf σ x:=by
 cases x with
 | none=>rfl
 | some y=>simp only [optOf,h y rfl]
theorem absCall_congr {c:Call} {ty:TypeId} {h:AH} (hx:∀ x ∈ c.operands.toList,ρ x=σ x):absCall P ρ c ty h=absCall P σ c ty h:=by
 have h1:listOf ρ c.args.toList=listOf σ c.args.toList:=listOf_congr fun x hm=>hx x (by simp only [Call.operands,Array.toList_append];exact List.mem_append_right _ hm)
 unfold absCall
 rw [h1]
 cases hc:c.callee with
 | builtin b=>cases b <;> rfl
 | value f=>simp only [hx f (by simp [Call.operands,hc])]
 | invoke f m=>simp only [hx f (by simp [Call.operands,hc])]
theorem absOp_congr {o:Oper} {h:AH} (hx:∀ x ∈ o.op.operands.toList,ρ x=σ x):absOp P ρ o h=absOp P σ o h:=by
 unfold absOp
 cases ho:o.op with
 | move x=>simp only [ho,Op.operands] at hx;simp only [hx x (by simp)]
 | assign x=>simp only [ho,Op.operands] at hx;simp only [hx x (by simp)]
 | pick c a b=>simp only [ho,Op.operands] at hx;simp only [hx c (by simp),hx a (by simp),hx b (by simp)]
 | box e x=>simp only [ho,Op.operands] at hx;simp only [hx x (by simp)]
 | build t l =>
  simp only [ho,Op.operands] at hx
  simp only [partsOf_congr (l:=l.toList) (fun x hm=>hx x.2 (by simpa using ⟨x.1,by simpa using hm⟩))]
 | buildSlice t n l =>
  simp only [ho,Op.operands] at hx
  simp only [partsOf_congr (l:=l.toList) (fun x hm=>hx x.2 (by simpa using ⟨x.1,by simpa using hm⟩))]
 | load t x=>simp only [ho,Op.operands] at hx;simp only [hx x (by simp)]
 | store t x y=>simp only [ho,Op.operands] at hx;simp only [hx x (by simp),hx y (by simp)]
 | nilCheck x=>simp only [ho,Op.operands] at hx;simp only [hx x (by simp)]
 | binOp op t x y yt=>simp only [ho,Op.operands] at hx;simp only [hx x (by simp),hx y (by simp)]
 | unOp op t x=>simp only [ho,Op.operands] at hx;simp only [hx x (by simp)]
 | convert s d x=>simp only [ho,Op.operands] at hx;simp only [hx x (by simp)]
 | makeInterface t x=>simp only [ho,Op.operands] at hx;simp only [hx x (by simp)]
 | makeFunc fn l m =>
  simp only [ho,Op.operands] at hx
  have h1:listOf ρ l.toList=listOf σ l.toList:=listOf_congr fun x hm=>hx x (by rw [Array.toList_append];exact List.mem_append_left _ hm)
  have h2:listOf ρ m.toList=listOf σ m.toList:=listOf_congr fun x hm=>hx x (by rw [Array.toList_append];exact List.mem_append_right _ hm)
  cases fn <;> simp only [h1,h2]
 | makeSlice t x y=>simp only [ho,Op.operands] at hx;simp only [hx x (by simp),hx y (by simp)]
 | slice t x l g m =>
  simp only [ho,Op.operands] at hx
  have h1:optOf ρ l=optOf σ l:=optOf_congr fun y e=>hx y (by simp [e])
  have h2:optOf ρ g=optOf σ g:=optOf_congr fun y e=>hx y (by simp [e])
  cases m with
  | none=>simp only [hx x (by simp),h1,h2]
  | some m=>simp only [hx x (by simp),hx m (by simp),h1,h2]
 | fieldAddr t x f=>simp only [ho,Op.operands] at hx;simp only [hx x (by simp)]
 | field t x f=>simp only [ho,Op.operands] at hx;simp only [hx x (by simp)]
 | indexAddr t x y=>simp only [ho,Op.operands] at hx;simp only [hx x (by simp),hx y (by simp)]
 | index t x y=>simp only [ho,Op.operands] at hx;simp only [hx x (by simp),hx y (by simp)]
 | typeAssert x a b c=>simp only [ho,Op.operands] at hx;simp only [hx x (by simp)]
 | extract x i=>simp only [ho,Op.operands] at hx;simp only [hx x (by simp)]
 | call c=>simp only [ho,Op.operands] at hx;exact absCall_congr hx
 | lookup t x k ok=>simp only [ho,Op.operands] at hx;simp only [hx x (by simp),hx k (by simp)]
 | mapUpdate t m k x=>simp only [ho,Op.operands] at hx;simp only [hx m (by simp),hx k (by simp),hx x (by simp)]
 | insert t m k x=>simp only [ho,Op.operands] at hx;simp only [hx m (by simp),hx k (by simp),hx x (by simp)]
 | mapEntry t m k=>simp only [ho,Op.operands] at hx;simp only [hx m (by simp),hx k (by simp)]
 | entryStore t m k x=>simp only [ho,Op.operands] at hx;simp only [hx m (by simp),hx k (by simp),hx x (by simp)]
 | range t x=>simp only [ho,Op.operands] at hx;simp only [hx x (by simp)]
 | next it s=>simp only [ho,Op.operands] at hx;simp only [hx it (by simp)]
 | entry it=>simp only [ho,Op.operands] at hx;simp only [hx it (by simp)]
 | makeMap t r=>cases r <;> rfl
 | _=>rfl
def loud (P:Program) (o:Oper):Bool :=
 match o.op with
 | .move _ | .assign _ | .pick .. | .build .. | .load .. | .nilCheck _ | .binOp .. | .unOp .. | .makeInterface .. | .makeFunc .. | .slice .. | .fieldAddr .. | .field .. | .indexAddr .. | .index ..
 | .typeAssert .. | .extract .. | .lookup .. | .entry ..=>false
 | .convert s d _=>match P.underlying d with
  | some (.slice _)=>true
  | _=>false
 | .call { callee:=.builtin .len,.. } | .call { callee:=.builtin .min,.. } | .call { callee:=.builtin .max,.. } | .call { callee:=.builtin .real,.. } | .call { callee:=.builtin .imag,.. } | .call { callee:=.builtin .complex,.. }=>false
 | _=>true
theorem valH_quiet {h:AH} {v:Option Value} {out:Out} (hh:valH h v=some out):∃ u,out=.val u h:=by
 obtain ⟨u,_,rfl⟩:=valH_eq hh
 exact ⟨u,rfl⟩
theorem absBin_quiet {op:BinOp} {t:TypeId} {x y:Operand} {a b:Value} {h:AH} {out:Out} (hh:absBin P op t x y a b h=some out):∃ v,out=.val v h:=by
 unfold absBin at hh
 repeat' split at hh
 all_goals first
  | exact valH_quiet hh
  | (cases hh;done)
  | (cases hh;exact ⟨_,rfl⟩)
theorem quiet_val {o:Oper} {h:AH} {out:Out} (hq:loud P o=false) (hh:absOp P ρ o h=some out):∃ v,out=.val v h:=by
 unfold loud at hq
 unfold absOp at hh
 cases ho:o.op with
 | binOp op t x y yt =>
  simp only [ho] at hh
  split at hh
  ·exact absBin_quiet hh
  ·cases hh
 | convert s d x =>
  simp only [ho] at hh hq
  split at hh
  ·unfold absConvert at hh
   split at hh
   ·rename_i h1 h2;rw [h1] at hq;cases hq
   ·split at hh
    ·exact valH_quiet hh
    ·cases hh
   ·split at hh
    ·exact valH_quiet hh
    ·cases hh
   ·split at hh
    ·exact valH_quiet hh
    ·exact valH_quiet hh
  ·cases hh
 | call c =>
  simp only [ho] at hh hq
  unfold absCall at hh
  obtain ⟨callee,args,ats⟩:=c
  cases callee with
  | value f=>cases hq
  | invoke f m=>cases hq
  | builtin b =>
   cases b
   case len =>
    simp only at hh
    repeat' split at hh
    all_goals first
     | exact valH_quiet hh
     | (cases hh;done)
   case min =>
    simp only at hh
    repeat' split at hh
    all_goals first
     | exact valH_quiet hh
     | (cases hh;done)
   case max =>
    simp only at hh
    repeat' split at hh
    all_goals first
     | exact valH_quiet hh
     | (cases hh;done)
   case real =>
    simp only at hh
    repeat' split at hh
    all_goals first
     | exact valH_quiet hh
     | (cases hh;done)
   case imag =>
    simp only at hh
    repeat' split at hh
    all_goals first
     | exact valH_quiet hh
     | (cases hh;done)
   case complex =>
    simp only at hh
    repeat' split at hh
    all_goals first
     | exact valH_quiet hh
     | (cases hh;done)
   all_goals (cases hq)
 | move x =>
  simp only [ho] at hh
  exact valH_quiet hh
 | assign x =>
  simp only [ho] at hh
  exact valH_quiet hh
 | pick c a b =>
  simp only [ho] at hh
  repeat' split at hh
  all_goals first
   | exact valH_quiet hh
   | (cases hh;done)
   | (cases hh;exact ⟨_,rfl⟩)
 | build t l =>
  simp only [ho] at hh
  repeat' split at hh
  all_goals first
   | exact valH_quiet hh
   | (cases hh;done)
   | (cases hh;exact ⟨_,rfl⟩)
 | load t x =>
  simp only [ho] at hh
  repeat' split at hh
  all_goals first
   | exact valH_quiet hh
   | (cases hh;done)
   | (cases hh;exact ⟨_,rfl⟩)
 | nilCheck x =>
  simp only [ho] at hh
  repeat' split at hh
  all_goals first
   | exact valH_quiet hh
   | (cases hh;done)
   | (cases hh;exact ⟨_,rfl⟩)
 | unOp op t x =>
  simp only [ho] at hh
  repeat' split at hh
  all_goals first
   | exact valH_quiet hh
   | (cases hh;done)
   | (cases hh;exact ⟨_,rfl⟩)
 | makeInterface t x =>
  simp only [ho] at hh
  repeat' split at hh
  all_goals first
   | exact valH_quiet hh
   | (cases hh;done)
   | (cases hh;exact ⟨_,rfl⟩)
 | slice t x l g m =>
  cases m with
  | some m =>
   simp only [ho] at hh
   repeat' split at hh
   all_goals first
    | exact valH_quiet hh
    | (cases hh;done)
    | (cases hh;exact ⟨_,rfl⟩)
  | none =>
   simp only [ho] at hh
   repeat' split at hh
   all_goals first
    | exact valH_quiet hh
    | (cases hh;done)
    | (cases hh;exact ⟨_,rfl⟩)
 | fieldAddr t x f =>
  simp only [ho] at hh
  repeat' split at hh
  all_goals first
   | exact valH_quiet hh
   | (cases hh;done)
   | (cases hh;exact ⟨_,rfl⟩)
 | field t x f =>
  simp only [ho] at hh
  repeat' split at hh
  all_goals first
   | exact valH_quiet hh
   | (cases hh;done)
   | (cases hh;exact ⟨_,rfl⟩)
 | indexAddr t x y =>
  simp only [ho] at hh
  repeat' split at hh
  all_goals first
   | exact valH_quiet hh
   | (cases hh;done)
   | (cases hh;exact ⟨_,rfl⟩)
 | index t x y =>
  simp only [ho] at hh
  repeat' split at hh
  all_goals first
   | exact valH_quiet hh
   | (cases hh;done)
   | (cases hh;exact ⟨_,rfl⟩)
 | typeAssert x a b c =>
  simp only [ho] at hh
  repeat' split at hh
  all_goals first
   | exact valH_quiet hh
   | (cases hh;done)
   | (cases hh;exact ⟨_,rfl⟩)
 | lookup t x k ok =>
  simp only [ho] at hh
  split at hh
  ·exact valH_quiet hh
  ·cases hh
 | entry it =>
  simp only [ho] at hh
  split at hh
  ·exact valH_quiet hh
  ·cases hh
 | extract x i =>
  simp only [ho] at hh
  repeat' split at hh
  all_goals first
   | exact valH_quiet hh
   | (cases hh;done)
   | (cases hh;exact ⟨_,rfl⟩)
 | makeFunc fn l m =>
  simp only [ho] at hh
  cases fn
  case func f =>
   simp only at hh
   split at hh
   ·cases hh;exact ⟨_,rfl⟩
   ·cases hh
  case method f =>
   simp only at hh
   split at hh
   ·cases hh;exact ⟨_,rfl⟩
   ·cases hh
  all_goals (cases hh)
 | _=>simp [ho] at hq
end
end Go.Ab
end
section
namespace Go.Ab
def Ren.still (E:Ren) (b:Nat) (c:Array Value):Ren:={ at_:=E.at_,soft:=E.soft,fro:=fun n=>if n=b then some c else E.fro n }
def inOrder (s:Nat):Nat→List (Nat × Value)→Bool
 | _,[]=>true
 | k,(i,v)::l=>i == k && v.cells.size == s && inOrder s (k + 1) l
def opBuildFroz (P:Program) (t:TypeId) (len:Nat) (parts:List (Nat × Value)):Option Value :=
 match P.underlying t with
 | some (.slice elem)=>match P.info? elem with
  | some d=>if len * d.size > 2 ^ 24 ∨ d.size=0 ∨ parts.length ≠ len ∨ inOrder d.size 0 parts=false then none else match zerosOf P elem len with
   | some z=>match fillA (fun i=>some (i * d.size,d.size)) z parts with
    | some _=>some (VSl (parts.map (·.2)))
    | none=>none
   | none=>none
  | none=>none
 | _=>none
def varArg (ops:Array Oper) (o:Oper):Bool:=match o.op,o.dst with
 | .buildSlice ..,some d=>ops.all fun x=>match x.op with
  | .call c=>match c.callee,c.args.toList with
   | .builtin .append,[.tmp s,_]=>s != d
   | _,l=>l.all fun y=>match y with | .tmp s=>s != d | _=>true
  | op=>op.operands.all fun y=>match y with | .tmp s=>s != d | _=>true
 | _,_=>false
def frozOf (P:Program) (ρ:Operand→Option Value) (o:Oper):Option Value:=match o.op with
 | .buildSlice t n parts=>match partsOf ρ parts.toList with
  | some l=>opBuildFroz P t n l
  | none=>none
 | _=>none
end Go.Ab
end
section
namespace Go.Ab
structure Rec where
 o:Oper
 a:AA
 h:AH
 v:Value
 q:Bool
 h':AH
def stepAt (P:Program) (call:CallF) (ops:Array Oper) (o:Oper) (a:AA) (h:AH):Option (Value × Bool × AH) :=
 if a.knows ops o then
 if Region.wanted o (a.yielded ops) then
  match (if varArg ops o then frozOf P (a.opnd P) o else none) with
  | some v=>some (v,false,h)
  | none=>match absOp P (a.opnd P) o h with
   | some (.val v h')=>some (v,loud P o,h')
   | some (.unit h')=>some (undef,true,h')
   | some (.enter f args h')=>call f args h'
   | none=>none
 else some (undef,false,h)
 else none
def lastB (p:Nat→Bool):Nat→Option Nat
 | 0=>none
 | n + 1=>if p n then some n else lastB p n
def readsOf (ops:Array Oper) (o:Oper):List Nat :=
 (o.op.operands.toList.filterMap fun | .tmp t=>some t | _=>none)++(match o.guard with | some (j,_)=>((ops[j]?).bind (·.dst)).toList | none=>[])
section
variable {P:Program} {call:CallF} {ops:Array Oper}
end
end Go.Ab
end
section
namespace Go.Ab
def writesAt (rs:List Rec) (n t k:Nat):Bool:=match rs[k]? with | some r=>r.o.dst == some t && decide (t < n) | none=>false
def loudAt (rs:List Rec) (k:Nat):Bool:=match rs[k]? with | some r=>r.q | none=>false
def valT (rs:List Rec) (a:AA) (t:Nat) (q:Option Nat):Option Value:=match q with | none=>a.get t | some k=>match rs[k]? with | some r=>some r.v | none=>a.get t
def heapT (rs:List Rec) (h:AH) (q:Option Nat):AH:=match q with | none=>h | some k=>match rs[k]? with | some r=>r.h' | none=>h
theorem put_n (a:AA) (d:Option Tmp) (v:Value):(a.put d v).n=a.n:=by
 cases d with
 | none=>rfl
 | some d=>simp only [AA.put];split <;> rfl
section
variable {P:Program} {call:CallF} {ops:Array Oper} {a a₂:AA} {h h₂:AH} {rs:List Rec}
structure Ordered (P:Program) (call:CallF) (ops:Array Oper) (rs:List Rec) (n:Nat) (h:AH) (pl:Nat→List Nat):Prop where
 ahead:∀ m i l,Good m ops (i::l)→∀ j ∈ pl i,j ∈ l
 tm:∀ i k x y d,rs[i]?=some x→rs[k]?=some y→i ≠ k→y.o.dst=some d→d < n→(d ∈ readsOf ops x.o ∨ x.o.dst=some d)→(k < i→k ∈ pl i)∧(i < k→i ∈ pl k)
 ld:∀ i k,loudAt rs i=true→loudAt rs k=true→k < i→k ∈ pl i
 rd:∀ i r,rs[i]?=some r→r.q=false→∀ q:Option Nat,(∀ l,q=some l→loudAt rs l=true) →
  (∀ p ∈ pl i,loudAt rs p=true→∃ l,q=some l∧p ≤ l)→(∀ l',loudAt rs l' = true→(∃ l,q=some l∧l' ≤ l)→i ∉ pl l') →
  stepAt P call ops r.o r.a (heapT rs h q)=some (r.v,false,heapT rs h q)
end
end Go.Ab
end
section
namespace Go.Ab
section
variable {P:Program} {call:CallF} {ops:Array Oper} {a a₂:AA} {h h₂:AH} {rs:List Rec}
theorem closed {pl:Nat→List Nat} (ho:Ordered P call ops rs a.n h pl) {m:Region.Mode} {acc:List Nat} (hg:Good m ops acc) {k:Nat} (hk:k ∈ acc):∀ j ∈ pl k,j ∈ acc:=by
 intro j hj
 obtain ⟨l1,l2,rfl⟩:=List.append_of_mem hk
 have:=ho.ahead m k l2 hg.drop j hj
 exact List.mem_append_right _ (List.mem_cons_of_mem _ this)
end
end Go.Ab
end
section
namespace Go.Ab
def free (o:Oper):Bool :=
 match o.op with
 | .move _ | .assign _ | .pick .. | .build .. | .nilCheck _ | .unOp .. | .makeInterface .. | .makeFunc .. | .fieldAddr .. | .field .. | .indexAddr .. | .index .. | .typeAssert .. | .extract ..=>true
 | _=>false
section
variable {P:Program} {ρ:Operand→Option Value}
theorem valH_free {h g:AH} {v:Option Value} {u:Value} (hh:valH h v=some (.val u h)):valH g v=some (.val u g):=by
 obtain ⟨w,rfl,e⟩:=valH_eq hh
 cases e;rfl
theorem free_val {o:Oper} {h g:AH} {v:Value} (hf:free o=true) (hh:absOp P ρ o h=some (.val v h)):absOp P ρ o g=some (.val v g):=by
 unfold free at hf
 unfold absOp at hh ⊢
 cases ho:o.op with
 | move x=>simp only [ho] at hh ⊢;exact valH_free hh
 | assign x=>simp only [ho] at hh ⊢;exact valH_free hh
 | pick c a b=>simp only [ho] at hh ⊢;(repeat' split at hh) <;> first | (simp_all only [];exact valH_free hh) | cases hh
 | build t l=>simp only [ho] at hh ⊢;(repeat' split at hh) <;> first | (simp_all only [];exact valH_free hh) | cases hh
 | nilCheck x =>
  simp only [ho] at hh ⊢
  split at hh
  ·split at hh
   ·rename_i hn;cases hh;rw [if_pos hn]
   ·cases hh
  ·cases hh
 | unOp op t x =>
  simp only [ho] at hh ⊢
  split at hh
  ·split at hh
   ·rename_i hn;rw [if_pos hn];exact valH_free hh
   ·cases hh
  ·cases hh
 | makeInterface t x=>simp only [ho] at hh ⊢;split at hh <;> first | exact valH_free hh | cases hh
 | makeFunc fn l m =>
  simp only [ho] at hh ⊢
  cases fn
  case func f =>
   simp only at hh ⊢
   split at hh
   ·cases hh;rfl
   ·cases hh
  case method f =>
   simp only at hh ⊢
   split at hh
   ·cases hh;rfl
   ·cases hh
  all_goals (cases hh)
 | fieldAddr t x f=>simp only [ho] at hh ⊢;split at hh <;> first | exact valH_free hh | cases hh
 | field t x f=>simp only [ho] at hh ⊢;split at hh <;> first | exact valH_free hh | cases hh
 | indexAddr t x y=>simp only [ho] at hh ⊢;split at hh <;> first | exact valH_free hh | cases hh
 | index t x y=>simp only [ho] at hh ⊢;split at hh <;> first | exact valH_free hh | cases hh
 | typeAssert x a b c=>simp only [ho] at hh ⊢;split at hh <;> first | exact valH_free hh | cases hh
 | extract x i=>simp only [ho] at hh ⊢;split at hh <;> first | exact valH_free hh | cases hh
 | _=>simp [ho] at hf
end
theorem free_loud {P:Program} {o:Oper} (h:free o=true):loud P o=false:=by
 unfold free at h
 unfold loud
 cases ho:o.op <;> rw [ho] at h <;> first | rfl | (cases h;done)
def below (n:Nat) (f:Nat→Bool):Bool:=(List.range n).all f
end Go.Ab
end
