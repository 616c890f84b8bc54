import Derived.Test.YtgdnfoijhdpppaaDoorZ14
set_option linter.unusedVariables false
set_option linter.unusedSimpArgs false
section
namespace Go.Ab
open Region
def stepY (P:Program) (ops:Array Oper) (o:Oper) (a:AA) (h:AH) (K PK:Value→AH→Prop):Prop:=match o.guard with
 | none=>wpOp P (a.opnd P) o h K PK
 | some (j,want)=>match (ops[j]?).bind (·.dst) with
  | some d=>if d < a.n then oq (a.get d) fun x=>guardQ x want h (fun k=>wpOp P (a.opnd P) o h k PK) K else K undef h
  | none=>K undef h
def plainY (o:Oper):Bool:=match o.op with
 | .panic _=>false
 | .next _ _=>false
 | .call c=>match c.callee with
  | .value (.func _)=>true
  | .value _=>false
  | _=>true
 | _=>true
theorem stepY_cases {P:Program} {ops:Array Oper} {o:Oper} {a:AA} {h:AH} {K PK:Value→AH→Prop} (hp:plainY o=true) (hh:stepY P ops o a h K PK) :
  a.knows ops o=true∧((Region.wanted o (a.yielded ops)=false∧K undef h) ∨ (Region.wanted o (a.yielded ops)=true∧∃ out,absOp P (a.opnd P) o h=some out∧outK P out K PK)):=by
 have habs:∀ {K:Value→AH→Prop},wpOp P (a.opnd P) o h K PK→∃ out,absOp P (a.opnd P) o h=some out∧outK P out K PK:=fun hw=>wpOp_abs (fun x e=>by simp [plainY,e] at hp) (fun it s e=>by simp [plainY,e] at hp) (fun c f l e e2 e3=>by
  simp only [plainY,e,e2] at hp
  cases f with
  | func f=>cases e3
  | _=>cases hp) hw
 unfold stepY at hh
 unfold AA.knows Region.wanted
 cases hg:o.guard with
 | none =>
  rw [hg] at hh
  exact ⟨rfl,.inr ⟨rfl,habs hh⟩⟩
 | some jw =>
  obtain ⟨j,want⟩:=jw
  rw [hg] at hh
  simp only at hh ⊢
  unfold AA.yielded
  cases hd:(ops[j]?).bind (·.dst) with
  | none=>rw [hd] at hh;exact ⟨rfl,.inl ⟨rfl,hh⟩⟩
  | some d =>
   rw [hd] at hh
   simp only at hh ⊢
   by_cases hlt:d < a.n
   ·rw [if_pos hlt] at hh ⊢
    rw [if_pos hlt]
    obtain ⟨x,hx,hh⟩:=oq_eq hh
    rw [hx]
    refine ⟨rfl,?_⟩
    cases hh with
    | yes e hk=>subst e;exact .inr ⟨by simp,habs hk⟩
    | no e hk =>
     refine .inl ⟨?_,hk⟩
     cases x with
     | bool b=>simpa using fun e2=>e (by rw [e2])
     | _=>rfl
   ·rw [if_neg hlt] at hh ⊢
    rw [if_neg hlt]
    exact ⟨rfl,.inl ⟨rfl,hh⟩⟩
abbrev PendY:=Nat × Oper × AA × Value
def againY (P:Program) (ops:Array Oper):List PendY→AH→Prop
 | [],_=>True
 | (_,o,a,v)::l,h=>stepY P ops o a h (fun u _=>u=v) (fun _ _=>False)∧againY P ops l h
theorem againY_mem {P:Program} {ops:Array Oper}:∀ {l:List PendY} {h:AH},againY P ops l h→∀ {x},x ∈ l→stepY P ops x.2.1 x.2.2.1 h (fun u _=>u=x.2.2.2) (fun _ _=>False):=by
 intro l
 induction l with
 | nil=>intro h _ x hx;cases hx
 | cons y l ih =>
  intro h ⟨h1,h2⟩ x hx
  cases hx with
  | head=>exact h1
  | tail _ hx=>exact ih h2 hx
def cloB:List Oper→List Nat→List Nat
 | [],acc=>acc
 | o::l,acc=>cloB l (acc++[(o.after.toList.filter strong).foldl (fun m e=>m ||| ((1 <<< e.on) ||| acc.getD e.on 0)) 0])
def inPl (pl:List Nat) (i j:Nat):Bool:=(pl.getD i 0).testBit j
def maskOf (l:List Nat):Nat:=l.foldl (fun m j=>m ||| (1 <<< j)) 0
theorem bit_one {n j:Nat} (h:(1 <<< n).testBit j=true):n=j:=by
 rw [Nat.one_shiftLeft,Nat.testBit_two_pow] at h
 simpa using h
theorem foldl_bit {α:Type} (f:α→Nat):∀ (l:List α) (m j:Nat),(l.foldl (fun m e=>m ||| f e) m).testBit j=true→m.testBit j=true ∨ ∃ e ∈ l,(f e).testBit j=true:=by
 intro l
 induction l with
 | nil=>intro m j h;exact .inl h
 | cons a l ih =>
  intro m j h
  rcases ih _ j h with h | ⟨e,h1,h2⟩
  ·rw [Nat.testBit_or,Bool.or_eq_true] at h
   rcases h with h | h
   ·exact .inl h
   ·exact .inr ⟨a,by simp,h⟩
  ·exact .inr ⟨e,by simp [h1],h2⟩
theorem maskOf_mem {l:List Nat} {j:Nat} (h:(maskOf l).testBit j=true):j ∈ l:=by
 rcases foldl_bit (fun j=>1 <<< j) l 0 j h with h | ⟨e,h1,h2⟩
 ·simp at h
 ·rw [← bit_one h2];exact h1
theorem mask_sub {a b j:Nat} (h:(a &&& b == a)=true) (hj:a.testBit j=true):b.testBit j=true:=by
 have e:a &&& b=a:=by simpa using h
 rw [← e,Nat.testBit_and,Bool.and_eq_true] at hj
 exact hj.2
theorem cloB_ahead {ops:Array Oper}:∀ (l:List Oper) (acc:List Nat),ops.toList.drop acc.length=l→acc.length ≤ ops.size →
  (∀ i j,inPl acc i j=true→∀ m k,Good m ops (i::k)→j ∈ k)→∀ i j,inPl (cloB l acc) i j=true→∀ m k,Good m ops (i::k)→j ∈ k:=by
 intro l
 induction l with
 | nil=>intro acc _ _ h;exact h
 | cons o l ih =>
  intro acc hd hle h
  have hlt:acc.length < ops.size:=by
   apply Classical.byContradiction
   intro hc
   rw [List.drop_eq_nil_of_le (by simpa using Nat.le_of_not_lt hc)] at hd
   cases hd
  have ho:ops[acc.length]?=some o:=by
   have:ops.toList[acc.length]?=some o:=by
    rw [← List.head?_drop,hd];rfl
   simpa using this
  refine ih _ ?_ (by simp;omega) ?_
  ·rw [List.length_append,List.length_singleton,← List.drop_drop,hd];rfl
  ·intro i j hj m k hg
   unfold inPl at hj
   by_cases e:i < acc.length
   ·rw [List.getD_eq_getElem?_getD,List.getElem?_append_left e,← List.getD_eq_getElem?_getD] at hj
    exact h i j hj m k hg
   ·by_cases e2:i=acc.length
    ·subst e2
     rw [List.getD_eq_getElem?_getD,List.getElem?_append_right (Nat.le_refl _)] at hj
     simp only [Nat.sub_self,List.getElem?_cons_zero,Option.getD_some] at hj
     rcases foldl_bit (fun e:Edge=>(1 <<< e.on) ||| acc.getD e.on 0) _ 0 j hj with hj | ⟨ed,he,hj⟩
     ·simp at hj
     ·obtain ⟨he,hst⟩:=List.mem_filter.1 he
      obtain ⟨hg1,hg2,o',ho',hg3⟩:=hg
      rw [ho] at ho';cases ho'
      have hon:=hg3 ed (by simpa using he) (strong_binds hst m)
      rw [Nat.testBit_or,Bool.or_eq_true] at hj
      rcases hj with hj | hj
      ·rw [← bit_one hj];exact hon
      ·obtain ⟨l1,l2,rfl⟩:=List.append_of_mem hon
       have:=h ed.on j hj m l2 hg1.drop
       exact List.mem_append_right _ (List.mem_cons_of_mem _ this)
    ·rw [List.getD_eq_getElem?_getD,List.getElem?_eq_none (by simp;omega)] at hj
     simp at hj
def wpY (P:Program) (ops:Array Oper) (pl:List Nat):List Nat→List PendY→AA→AH→(AA→AH→Prop)→(Value→AH→Prop)→Prop
 | [],_,a,h,Q,_=>Q a h
 | i::rest,pend,a,h,Q,PK=>match ops[i]? with
  | none=>False
  | some o=>match loud P o with
   | true=>stepY P ops o a h (fun v h'=>againY P ops (pend.filter fun x=>!inPl pl i x.1) h'∧wpY P ops pl rest (pend.filter fun x=>!inPl pl i x.1) (a.put o.dst v) h' Q PK) PK
   | false=>stepY P ops o a h (fun v h'=>wpY P ops pl rest (if free o then pend else (i,o,a,v)::pend) (a.put o.dst v) h' Q PK) PK
def nextY (P:Program) (ops:Array Oper) (pl:List Nat) (done:List Nat) (q:Bool):List Nat→Option Nat
 | []=>none
 | i::l=>if (match ops[i]? with | some o=>loud P o != q | none=>false) && (pl.getD i 0 &&& maskOf done == pl.getD i 0) then some i else nextY P ops pl done q l
def ordY (P:Program) (ops:Array Oper) (pl:List Nat):Nat→List Nat→List Nat→List Nat
 | 0,_,done=>done.reverse
 | n + 1,l,done=>match nextY P ops pl done true l with
  | some i=>ordY P ops pl n (l.erase i) (i::done)
  | none=>match nextY P ops pl done false l with
   | some i=>ordY P ops pl n (l.erase i) (i::done)
   | none=>done.reverse
def orderOf (P:Program) (ops:Array Oper):List Nat:=ordY P ops (cloB ops.toList []) ops.size (List.range ops.size) []
def okY (P:Program) (ops:Array Oper) (pl:List Nat):List Nat→List Nat→Bool
 | _,[]=>true
 | pre,i::rest=>(match ops[i]? with
  | none=>false
  | some o=>plainY o && (pl.getD i 0 &&& maskOf pre == pl.getD i 0) && !pre.contains i &&
   -- all that is loud and comes ahead in this order comes ahead in every order
   pre.all (fun m=>match ops[m]? with | some y=>!loud P y || inPl pl i m | none=>false) &&
   -- what is read is written ahead in every order,or behind
   (List.range ops.size).all fun k=>k == i || (match ops[k]? with
    | some y=>match y.dst with
     | some d=>o.dst != some d && (!(readsOf ops o).contains d || inPl pl i k || inPl pl k i)
     | none=>true
    | none=>false)) && okY P ops pl (i::pre) rest
def orderedY (P:Program) (ops:Array Oper):Bool :=
 backs ops && (orderOf P ops).length == ops.size && (List.range ops.size).all (orderOf P ops).contains && okY P ops (cloB ops.toList []) [] (orderOf P ops)
def AA.less (a:AA):List Nat→AA
 | []=>a
 | t::l=>⟨(a.less l).tm.put (t + 1) (t + 1) none,a.n,a.rnd⟩
theorem AA.less_n (a:AA):∀ l,(a.less l).n=a.n
 | []=>rfl
 | _::_=>rfl
theorem AA.less_rnd (a:AA):∀ l,(a.less l).rnd=a.rnd
 | []=>rfl
 | _::_=>rfl
theorem AA.less_get (a:AA):∀ (l:List Nat) (t:Nat) (v:Value),(a.less l).get t=some v→t ∉ l∧a.get t=some v:=by
 intro l
 induction l with
 | nil=>intro t v h;exact ⟨by simp,h⟩
 | cons u l ih =>
  intro t v h
  unfold AA.get AA.less at h
  simp only at h
  rw [T.get_put _ _ _ _ _ (by omega) (Nat.le_refl _) (by omega)] at h
  split at h
  ·cases h
  ·rename_i hne
   obtain ⟨h1,h2⟩:=ih t v h
   exact ⟨by simp only [List.mem_cons,not_or];exact ⟨by omega,h1⟩,h2⟩
def dstsOf (ops:Array Oper):List Nat:=ops.toList.filterMap (·.dst)
section
variable {P:Program} {ops:Array Oper}
def wrY (ops:Array Oper) (n t:Nat) (j:Nat):Prop:=∃ o,ops[j]?=some o∧o.dst=some t∧t < n
structure AtY (ops:Array Oper) (a0:AA) (l:List Nat) (val:Nat→Value) (a:AA):Prop where
 n:a.n=a0.n
 rnd:a.rnd=a0.rnd
 wr:∀ t j,j ∈ l→wrY ops a0.n t j→a.get t=some (val j)
 no:∀ t,(∀ j ∈ l,¬ wrY ops a0.n t j)→a.get t=a0.get t
def oneY (ops:Array Oper) (n:Nat):Prop:=∀ i j t,wrY ops n t i→wrY ops n t j→i=j
theorem AtY.put {a0 a:AA} {l:List Nat} {val:Nat→Value} (h1:oneY ops a0.n) (x:AtY ops a0 l val a) {i:Nat} {o:Oper} {v:Value} (ho:ops[i]?=some o) (hi:i ∉ l) (hv:val i=v):AtY ops a0 (i::l) val (a.put o.dst v):=by
 have hget:∀ t,(a.put o.dst v).get t=if o.dst=some t∧t < a0.n then some v else a.get t:=by
  intro t
  cases hd:o.dst with
  | none=>simp [AA.put]
  | some d =>
   rw [AA.get_put,x.n]
   by_cases e:t=d
   ·subst e;simp
   ·rw [if_neg (fun h=>e h.1.symm),if_neg (fun h=>e (Option.some.inj h.1).symm)]
 refine ⟨by rw [put_n,x.n],by rw [AA.put_rnd,x.rnd],fun t j hj hw=>?_,fun t hno=>?_⟩
 ·rw [hget]
  by_cases hc:o.dst=some t∧t < a0.n
  ·rw [if_pos hc,h1 j i t hw ⟨o,ho,hc.1,hc.2⟩,hv]
  ·rw [if_neg hc]
   cases hj with
   | head =>
    obtain ⟨o',ho',hd,hlt⟩:=hw
    rw [ho] at ho';cases ho'
    exact absurd ⟨hd,hlt⟩ hc
   | tail _ hj=>exact x.wr t j hj hw
 ·rw [hget,if_neg fun hc=>hno i (by simp) ⟨o,ho,hc.1,hc.2⟩]
  exact x.no t fun j hj=>hno j (by simp [hj])
theorem AtY.reads {a0 a b:AA} {l m:List Nat} {val:Nat→Value} (x:AtY ops a0 l val a) (y:AtY ops a0 m val b) {R:List Nat} (hR:∀ t ∈ R,∀ j,wrY ops a0.n t j→(j ∈ l ↔ j ∈ m)):∀ t ∈ R,a.get t=b.get t:=by
 intro t ht
 by_cases hj:∃ j ∈ l,wrY ops a0.n t j
 ·obtain ⟨j,h1,h2⟩:=hj
  rw [x.wr t j h1 h2,y.wr t j ((hR t ht j h2).1 h1) h2]
 ·rw [x.no t fun j h1 h2=>hj ⟨j,h1,h2⟩,y.no t fun j h1 h2=>hj ⟨j,(hR t ht j h2).2 h1,h2⟩]
theorem AtY.congr {a0 a:AA} {l:List Nat} {val val':Nat→Value} (x:AtY ops a0 l val a) (h:∀ j ∈ l,val' j=val j):AtY ops a0 l val' a:=⟨x.n,x.rnd,fun t j hj hw=>by rw [h j hj];exact x.wr t j hj hw,x.no⟩
def QStep (P:Program) (ops:Array Oper) (o:Oper) (b:AA) (h:AH) (v:Value):Prop :=
 b.knows ops o=true∧((Region.wanted o (b.yielded ops)=false∧v=undef) ∨ (Region.wanted o (b.yielded ops)=true∧absOp P (b.opnd P) o h=some (.val v h)))
theorem know_congr {o:Oper} {a b:AA} (hn:a.n=b.n) (hr:∀ t ∈ readsOf ops o,a.get t=b.get t):a.knows ops o=b.knows ops o∧Region.wanted o (a.yielded ops)=Region.wanted o (b.yielded ops)∧∀ h,absOp P (a.opnd P) o h=absOp P (b.opnd P) o h:=by
 have h0:∀ j want,o.guard=some (j,want)→∀ d,(ops[j]?).bind (·.dst)=some d→a.get d=b.get d:=fun j want hg d hd=>hr d (by simp [readsOf,hg,hd])
 refine ⟨?_,?_,fun h=>absOp_congr fun x hx=>?_⟩
 ·unfold AA.knows
  cases hg:o.guard with
  | none=>rfl
  | some jw =>
   obtain ⟨j,want⟩:=jw
   simp only
   cases hd:(ops[j]?).bind (·.dst) with
   | none=>rfl
   | some d=>simp only [hn];rw [h0 j want hg d hd]
 ·unfold Region.wanted
  cases hg:o.guard with
  | none=>rfl
  | some jw =>
   obtain ⟨j,want⟩:=jw
   simp only
   unfold AA.yielded
   cases hd:(ops[j]?).bind (·.dst) with
   | none=>rfl
   | some d=>simp only [hn];rw [h0 j want hg d hd]
 ·cases x with
  | tmp t =>
   have:t ∈ readsOf ops o:=by
    unfold readsOf
    exact List.mem_append_left _ (List.mem_filterMap.2 ⟨.tmp t,hx,rfl⟩)
   simp only [AA.opnd,hn]
   rw [hr t this]
  | _=>rfl
theorem QStep.congr {o:Oper} {a b:AA} {h:AH} {v:Value} (x:QStep P ops o a h v) (hn:a.n=b.n) (hr:∀ t ∈ readsOf ops o,a.get t=b.get t):QStep P ops o b h v:=by
 obtain ⟨h1,h2,h3⟩:=know_congr (P:=P) (o:=o) hn hr
 unfold QStep
 rw [← h1,← h2,← h3]
 exact x
theorem QStep.of_step {o:Oper} {a:AA} {h:AH} {K PK:Value→AH→Prop} (hp:plainY o=true) (hl:loud P o=false) (hh:stepY P ops o a h K PK):∃ v,QStep P ops o a h v∧K v h:=by
 obtain ⟨h1,h2⟩:=stepY_cases hp hh
 rcases h2 with ⟨h2,h3⟩ | ⟨h2,out,h3,h4⟩
 ·exact ⟨undef,⟨h1,.inl ⟨h2,rfl⟩⟩,h3⟩
 ·obtain ⟨v,rfl⟩:=quiet_val hl h3
  exact ⟨v,⟨h1,.inr ⟨h2,h3⟩⟩,h4⟩
theorem QStep.free {o:Oper} {a:AA} {h g:AH} {v:Value} (hf:Ab.free o=true) (x:QStep P ops o a h v):QStep P ops o a g v:=by
 refine ⟨x.1,?_⟩
 rcases x.2 with h | ⟨h1,h2⟩
 ·exact .inl h
 ·exact .inr ⟨h1,free_val hf h2⟩
theorem okY_at {pl:List Nat}:∀ (l pre:List Nat),okY P ops pl pre l=true→∀ p i r,l=p++i::r →
  ∃ o,ops[i]?=some o∧plainY o=true∧(∀ j,inPl pl i j=true→j ∈ p.reverse++pre)∧i ∉ p.reverse++pre∧(∀ m ∈ p.reverse++pre,∃ y,ops[m]?=some y∧(loud P y=true→inPl pl i m=true)) ∧
   (∀ k y d,ops[k]?=some y→k ≠ i→y.dst=some d→o.dst ≠ some d∧(d ∈ readsOf ops o→inPl pl i k=true ∨ inPl pl k i=true)):=by
 intro l
 induction l with
 | nil=>intro pre _ p i r h;cases p <;> cases h
 | cons x l ih =>
  intro pre hok p i r hl
  unfold okY at hok
  rw [Bool.and_eq_true] at hok
  obtain ⟨h1,h2⟩:=hok
  cases p with
  | nil =>
   cases hl
   cases ho:ops[x]? with
   | none=>rw [ho] at h1;cases h1
   | some o =>
    rw [ho] at h1
    simp only [Bool.and_eq_true] at h1
    obtain ⟨⟨⟨⟨q1,q2⟩,q3⟩,q4⟩,q5⟩:=h1
    refine ⟨o,rfl,q1,fun j hj=>?_,?_,fun m hm=>?_,fun k y d hk hne hd=>?_⟩
    ·exact by simpa using maskOf_mem (mask_sub q2 hj)
    ·simpa using q3
    ·have:=List.all_eq_true.1 q4 m (by simpa using hm)
     cases hy:ops[m]? with
     | none=>rw [hy] at this;cases this
     | some y =>
      rw [hy] at this
      refine ⟨y,rfl,fun hl=>?_⟩
      simpa only [hl,Bool.not_true,Bool.false_or] using this
    ·have hlt:k < ops.size:=(Array.getElem?_eq_some_iff.1 hk).1
     have:=List.all_eq_true.1 q5 k (List.mem_range.2 hlt)
     have hne':(k == x)=false:=by simpa using hne
     rw [hne',hk] at this
     simp only [hd,Bool.false_or,Bool.and_eq_true,bne_iff_ne,ne_eq,Bool.or_eq_true,Bool.not_eq_true',List.contains_eq_mem,decide_eq_true_eq,decide_eq_false_iff_not] at this
     exact ⟨this.1,fun hr=>by rcases this.2 with (h | h) | h
                              ·exact absurd hr h
                              ·exact .inl h
                              ·exact .inr h⟩
  | cons y p =>
   cases hl
   obtain ⟨o,g1,g2,g3,g4,g5,g6⟩:=ih (x::pre) h2 p i r rfl
   have e:(x::p).reverse++pre=p.reverse++x::pre:=by simp
   rw [e]
   exact ⟨o,g1,g2,g3,g4,g5,g6⟩
structure InvY (P:Program) (ops:Array Oper) (order:List Nat) (pl:List Nat) (a0:AA) (Q:AA→AH→Prop) (PK:Value→AH→Prop) (acc pre rest:List Nat) (pend:List PendY) (val:Nat→Value) (a:AA) (h:AH):Prop where
 ord:order=pre++rest
 run:wpY P ops pl rest pend a h Q PK
 aty:AtY ops a0 pre val a
 sub:∀ j ∈ acc,j ∈ pre
 quiet:∀ p j r,pre=p++j::r→j ∉ acc→∃ o,ops[j]?=some o∧∀ b,AtY ops a0 p val b→QStep P ops o b h (val j)
 pnd:∀ p j r,pre=p++j::r→j ∉ acc→∃ o,ops[j]?=some o∧(Ab.free o=true ∨ ∃ b,(j,o,b,val j) ∈ pend∧AtY ops a0 p val b)
 pin:∀ x ∈ pend,x.1 ∈ pre∧ops[x.1]?=some x.2.1∧plainY x.2.1=true∧loud P x.2.1=false
theorem InvY.norm {order:List Nat} {pl:List Nat} {a0:AA} {Q:AA→AH→Prop} {PK:Value→AH→Prop} (hone:oneY ops a0.n) (hok:okY P ops pl [] order=true) {acc:List Nat} {h:AH}:∀ {rest pre:List Nat} {pend:List PendY} {val:Nat→Value} {a:AA},
  InvY P ops order pl a0 Q PK acc pre rest pend val a h→(∀ j ∈ acc,j ∈ pre)→∃ pre' rest' pend' val' a',InvY P ops order pl a0 Q PK acc pre' rest' pend' val' a' h∧(∀ j ∈ acc,val' j=val j)∧(rest' = [] ∨ ∃ i r o,rest' = i::r∧ops[i]?=some o∧loud P o=true):=by
 intro rest
 induction rest with
 | nil=>intro pre pend val a x hs;exact ⟨_,_,_,_,_,x,fun _ _=>rfl,.inl rfl⟩
 | cons i rest ih =>
  intro pre pend val a x hs
  obtain ⟨o,g1,g2,g3,g4,g5,g6⟩:=okY_at order [] hok pre i rest x.ord
  simp only [List.append_nil,List.mem_reverse] at g3 g4 g5
  cases hl:loud P o with
  | true=>exact ⟨_,_,_,_,_,x,fun _ _=>rfl,.inr ⟨i,rest,o,rfl,g1,hl⟩⟩
  | false =>
   have hrun:=x.run
   unfold wpY at hrun
   rw [g1] at hrun
   simp only [hl] at hrun
   obtain ⟨v,hq,hrun⟩:=QStep.of_step g2 hl hrun
   have hval:∀ j ∈ pre,(if j=i then v else val j)=val j:=fun j hj=>if_neg (fun (e:j=i)=>g4 (e ▸ hj))
   have x':InvY P ops order pl a0 Q PK acc (pre++[i]) rest (if free o then pend else (i,o,a,v)::pend) (fun j=>if j=i then v else val j) (a.put o.dst v) h:=by
    refine ⟨by rw [x.ord];simp,hrun,?_,fun j hj=>by simp [hs j hj],fun p j r hp hj=>?_,fun p j r hp hj=>?_,fun y hy=>?_⟩
    ·have:=(x.aty.congr hval).put hone g1 g4 (v:=v) (by simp)
     refine ⟨this.n,this.rnd,fun t j hj hw=>this.wr t j (by simpa [or_comm] using hj) hw,fun t hno=>this.no t fun j hj=>hno j (by simpa [or_comm] using hj)⟩
    ·rcases List.append_eq_append_iff.1 hp with ⟨u,h1,h2⟩ | ⟨u,h1,h2⟩
     ·
      cases u with
      | nil =>
       simp at h1 h2
       obtain ⟨rfl,rfl⟩:=h2
       subst h1
       refine ⟨o,g1,fun b hb=>?_⟩
       simp only [if_true]
       have hb':=hb.congr (val':=val) fun j hj=>(hval j hj).symm
       exact hq.congr (by rw [x.aty.n,hb.n]) fun t ht=>x.aty.reads hb' (R:=readsOf ops o) (fun t _ j _=>Iff.rfl) t ht
      | cons c u =>
       simp at h2
     ·cases u with
      | nil =>
       simp at h1 h2
       obtain ⟨rfl,rfl⟩:=h2
       subst h1
       refine ⟨o,g1,fun b hb=>?_⟩
       simp only [if_true]
       have hb':=hb.congr (val':=val) fun j hj=>(hval j hj).symm
       exact hq.congr (by rw [x.aty.n,hb.n]) fun t ht=>x.aty.reads hb' (R:=readsOf ops o) (fun t _ j _=>Iff.rfl) t ht
      | cons c u =>
       simp only [List.cons_append,List.cons.injEq] at h2
       obtain ⟨rfl,h2⟩:=h2
       have hjp:j ∈ pre:=by rw [h1];simp
       obtain ⟨o',k1,k2⟩:=x.quiet p j u h1 hj
       refine ⟨o',k1,fun b hb=>?_⟩
       rw [hval j hjp]
       exact k2 b (hb.congr fun k hk=>(hval k (by rw [h1];simp [hk])).symm)
    ·rcases List.append_eq_append_iff.1 hp with ⟨u,h1,h2⟩ | ⟨u,h1,h2⟩
     ·cases u with
      | nil =>
       simp at h1 h2
       obtain ⟨rfl,rfl⟩:=h2
       subst h1
       refine ⟨o,g1,?_⟩
       cases hf:free o with
       | true=>exact .inl rfl
       | false=>exact .inr ⟨a,by simp,x.aty.congr hval⟩
      | cons c u=>simp at h2
     ·cases u with
      | nil =>
       simp at h1 h2
       obtain ⟨rfl,rfl⟩:=h2
       subst h1
       refine ⟨o,g1,?_⟩
       cases hf:free o with
       | true=>exact .inl rfl
       | false=>exact .inr ⟨a,by simp,x.aty.congr hval⟩
      | cons c u =>
       simp only [List.cons_append,List.cons.injEq] at h2
       obtain ⟨rfl,h2⟩:=h2
       have hjp:j ∈ pre:=by rw [h1];simp
       obtain ⟨o',k1,k2⟩:=x.pnd p j u h1 hj
       refine ⟨o',k1,?_⟩
       rcases k2 with k2 | ⟨b,k2,k3⟩
       ·exact .inl k2
       ·refine .inr ⟨b,?_,k3.congr fun k hk=>hval k (by rw [h1];simp [hk])⟩
        rw [hval j hjp]
        split
        ·exact k2
        ·exact List.mem_cons_of_mem _ k2
    ·split at hy
     ·obtain ⟨q1,q2⟩:=x.pin y hy;exact ⟨by simp [q1],q2⟩
     ·cases hy with
      | head=>exact ⟨by simp,g1,g2,hl⟩
      | tail _ hy=>obtain ⟨q1,q2⟩:=x.pin y hy;exact ⟨by simp [q1],q2⟩
   obtain ⟨pre',rest',pend',val',a',k1,k2,k3⟩:=ih x' (fun j hj=>by simp [hs j hj])
   exact ⟨pre',rest',pend',val',a',k1,fun j hj=>by rw [k2 j hj];exact hval j (hs j hj),k3⟩
theorem RT.agree {E:Ren} {a b:AA} {t:Array Value} (h:RT E a t) (hn:b.n=a.n) (hg:∀ k v,b.get k=some v→a.get k=some v):RT E b t:=⟨by rw [hn];exact h.size,fun k v hk=>h.get k v (hg k v hk)⟩
end
end Go.Ab
end
