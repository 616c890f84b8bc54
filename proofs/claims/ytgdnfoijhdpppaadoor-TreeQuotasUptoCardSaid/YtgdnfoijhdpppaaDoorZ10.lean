import Derived.Test.YtgdnfoijhdpppaaDoorZ9
set_option linter.unusedVariables false
set_option linter.unusedSimpArgs false
section
namespace Go.Ab
section
variable {P:Program} {call:CallF} {ops:Array Oper} {a a₂:AA} {h h₂:AH} {rs:List Rec}
theorem closed {pl:Nat→List Nat} (ho:Ordered P call ops rs a.n h pl) {m:Region.Mode} {acc:List Nat} (hg:Good m ops acc) {k:Nat} (hk:k ∈ acc):∀ j ∈ pl k,j ∈ acc:=by
 intro j hj
 obtain ⟨l1,l2,rfl⟩:=List.append_of_mem hk
 have:=ho.ahead m k l2 hg.drop j hj
 exact List.mem_append_right _ (List.mem_cons_of_mem _ this)
theorem last_here {pl:Nat→List Nat} (ho:Ordered P call ops rs a.n h pl) {m:Region.Mode} {i:Nat} {acc:List Nat} (hg:Good m ops (i::acc)) (hi:i < ops.size) {p:Nat→Bool}
  (h1:∀ k,k < i→p k=true→k ∈ pl i) (h2:∀ k,i < k→p k=true→i ∈ pl k):lastB (fun k=>p k && decide (k ∈ acc)) ops.size=lastB p i:=by
 have hup:∀ k,i ≤ k→k < ops.size→(p k && decide (k ∈ acc))=false:=by
  intro k hk _
  rw [Bool.and_eq_false_iff]
  by_cases e:k=i
  ·subst e;right;simpa using hg.2.1
  ·cases hp:p k with
   | false=>exact .inl rfl
   | true =>
    right
    have:=h2 k (by omega) hp
    simp only [decide_eq_false_iff_not]
    exact fun hc=>hg.2.1 (closed ho hg.1 hc i this)
 rw [lastB_cut (Nat.le_of_lt hi) hup]
 refine lastB_congr fun k hk=>?_
 cases hp:p k with
 | false=>rfl
 | true=>simpa using ho.ahead m i acc hg k (h1 k hk hp)
theorem last_put {pl:Nat→List Nat} (ho:Ordered P call ops rs a.n h pl) {m:Region.Mode} {i:Nat} {acc:List Nat} (hg:Good m ops (i::acc)) (hi:i < ops.size) {p:Nat→Bool} (hp:p i=true)
  (h2:∀ k,i < k→p k=true→i ∈ pl k):lastB (fun k=>p k && decide (k ∈ i::acc)) ops.size=some i:=by
 refine lastB_at hi (by simp [hp]) fun k hk _=>?_
 rw [Bool.and_eq_false_iff]
 cases hpk:p k with
 | false=>exact .inl rfl
 | true =>
  right
  have:=h2 k hk hpk
  simp only [decide_eq_false_iff_not,List.mem_cons,not_or]
  exact ⟨by omega,fun hc=>hg.2.1 (closed ho hg.1 hc i this)⟩
theorem last_skip {i:Nat} {acc:List Nat} {p:Nat→Bool} (hp:p i=false) (n:Nat):lastB (fun k=>p k && decide (k ∈ i::acc)) n=lastB (fun k=>p k && decide (k ∈ acc)) n:=by
 refine lastB_congr fun k hk=>?_
 by_cases e:k=i
 ·subst e;simp [hp]
 ·simp [e]
theorem draw_wp {ro:Option Nat} {D:List Deferred} (hc:CallOk P call) (ht:trace P call ops ops.toList a h=some (rs,a₂,h₂)) {pl:Nat→List Nat} (ho:Ordered P call ops rs a.n h pl) {E:Ren} {w:World} {x:Act}
  {Q:Exit→Act→World→Prop} (r0:RW P E h w) (rt0:RT E a x.tmps) (hd0:x.defers=D)
  (hQ:∀ E' w' y,RW P E' h₂ w'→Ext E w E' w'→RT E' a₂ y.tmps→y.defers=D→Q .normal y w') {m:Region.Mode} {l:List Nat} (hg:Good m ops l) (hl:l.length=ops.size) :
  wpOpsR ro P ops Q l.reverse x w:=by
 obtain ⟨q1,q2,q3,q4,q5,q6⟩:=trace_get ht
 have q1':rs.length=ops.size:=by rw [q1];simp
 have go:∀ (rest acc:List Nat),Good m ops (rest.reverse++acc)→(rest.reverse++acc).length=ops.size→∀ (E':Ren) (w':World) (y:Act) (aS:AA),
   RW P E' (heapT rs h (lastB (fun k=>loudAt rs k && decide (k ∈ acc)) ops.size)) w'→Ext E w E' w'→RT E' aS y.tmps→aS.n=a.n →
   (∀ t,aS.get t=valT rs a t (lastB (fun k=>writesAt rs a.n t k && decide (k ∈ acc)) ops.size))→y.defers=D→wpOpsR ro P ops Q rest y w':=by
  intro rest
  induction rest with
  | nil =>
   intro acc hga hla E' w' y aS r xt rt hn hv hd
   simp only [List.reverse_nil,List.nil_append] at hga hla
   have hall:∀ k,k < ops.size→k ∈ acc:=by
    intro k hk
    apply Classical.byContradiction
    intro hc
    have hsub:∀ j ∈ k::acc,j ∈ List.range ops.size:=by
     intro j hj
     cases hj with
     | head=>exact List.mem_range.2 hk
     | tail _ hj=>exact List.mem_range.2 (hga.lt j hj)
    have:=(List.nodup_cons.2 ⟨hc,hga.nodup⟩).length_le_of_subset hsub
    rw [List.length_range,List.length_cons] at this
    omega
   obtain ⟨e1,e2,e3⟩:=text_end hc ht
   have hcg:∀ p:Nat→Bool,lastB (fun k=>p k && decide (k ∈ acc)) ops.size=lastB p ops.size:=fun p=>lastB_congr fun k hk=>by simp [hall k hk]
   simp only [wpOpsR]
   refine hQ E' w' y ?_ xt (rt.less (by rw [e1,hn]) fun t v hvt=>?_) hd
   ·rw [e3,← hcg];exact r
   ·rw [hv t,hcg,← e2 t];exact hvt
  | cons i rest ih =>
   intro acc hga hla E' w' y aS r xt rt hn hv hd
   have hga':Good m ops (rest.reverse++(i::acc)):=by simpa using hga
   have hla':(rest.reverse++(i::acc)).length=ops.size:=by simpa using hla
   have hgi:Good m ops (i::acc):=hga'.drop
   obtain ⟨o,hoi,_⟩:=hgi.2.2
   have hi:i < ops.size:=(Array.getElem?_eq_some_iff.1 hoi).1
   have hri:rs[i]?=some (rs[i]'(by omega)):=List.getElem?_eq_getElem (by omega)
   generalize hr:rs[i]'(by omega)=ri at hri
   obtain ⟨s1,s2⟩:=q2 i ri hri
   have hro:ri.o=o:=by
    have:some o=some ri.o:=by rw [← hoi,← s1];simp
    exact (Option.some.inj this).symm
   obtain ⟨g1,g2,g3⟩:=text_get hc ht i ri hri
   -- what is read is what is read in the order of the text
   have hreads:∀ t ∈ readsOf ops ri.o,aS.get t=ri.a.get t:=by
    intro t ht'
    rw [hv t,g2 t]
    congr 1
    refine last_here ho hgi hi (fun k hk hp=>?_) (fun k hk hp=>?_)
    ·unfold writesAt at hp
     split at hp
     ·rename_i yk hyk
      simp only [Bool.and_eq_true,beq_iff_eq,decide_eq_true_eq] at hp
      exact (ho.tm i k ri yk t hri hyk (by omega) hp.1 hp.2 (.inl ht')).1 hk
     ·cases hp
    ·unfold writesAt at hp
     split at hp
     ·rename_i yk hyk
      simp only [Bool.and_eq_true,beq_iff_eq,decide_eq_true_eq] at hp
      exact (ho.tm i k ri yk t hri hyk (by omega) hp.1 hp.2 (.inl ht')).2 hk
     ·cases hp
   have hcongr:=fun hh=>step_congr (P:=P) (call:=call) (ops:=ops) (o:=ri.o) (hn.trans g1.symm) hreads hh
   have hli:loudAt rs i=ri.q:=by simp [loudAt,hri]
   have hwi:∀ t,writesAt rs a.n t i=(ri.o.dst == some t && decide (t < a.n)):=fun t=>by simp [writesAt,hri]
   have hloudHere:ri.q=true→heapT rs h (lastB (fun k=>loudAt rs k && decide (k ∈ acc)) ops.size)=ri.h:=by
    intro hl
    rw [g3,last_here ho hgi hi (fun k hk hp=>ho.ld i k (by rw [hli];exact hl) hp hk) (fun k hk hp=>ho.ld k i hp (by rw [hli];exact hl) hk)]
   have hloudPut:ri.q=true→heapT rs h (lastB (fun k=>loudAt rs k && decide (k ∈ i::acc)) ops.size)=ri.h':=by
    intro hl
    rw [last_put ho hgi hi (by rw [hli];exact hl) (fun k hk hp=>ho.ld k i hp (by rw [hli];exact hl) hk)]
    simp [heapT,hri]
   have hquietPut:ri.q=false→heapT rs h (lastB (fun k=>loudAt rs k && decide (k ∈ i::acc)) ops.size)=heapT rs h (lastB (fun k=>loudAt rs k && decide (k ∈ acc)) ops.size):=by
    intro hl
    rw [last_skip (by rw [hli];exact hl)]
   have hvals:∀ t,(aS.put ri.o.dst ri.v).get t=valT rs a t (lastB (fun k=>writesAt rs a.n t k && decide (k ∈ i::acc)) ops.size):=by
    intro t
    by_cases hw:writesAt rs a.n t i=true
    ·have hw':=hw
     rw [hwi] at hw'
     simp only [Bool.and_eq_true,beq_iff_eq,decide_eq_true_eq] at hw'
     rw [last_put ho hgi hi hw (fun k hk hp=>by
      unfold writesAt at hp
      split at hp
      ·rename_i yk hyk
       simp only [Bool.and_eq_true,beq_iff_eq,decide_eq_true_eq] at hp
       exact (ho.tm i k ri yk t hri hyk (by omega) hp.1 hp.2 (.inr hw'.1)).2 hk
      ·cases hp)]
     rw [hw'.1,AA.get_put,hn,if_pos ⟨rfl,hw'.2⟩]
     simp [valT,hri]
    ·rw [last_skip (by simpa using hw),← hv t]
     rw [hwi] at hw
     cases hdst:ri.o.dst with
     | none=>rfl
     | some d =>
      rw [AA.get_put,hn,if_neg]
      rintro ⟨rfl,hlt⟩
      exact hw (by simp [hdst,hlt])
   have hnn:∀ v,(aS.put ri.o.dst v).n=a.n:=fun v=>by rw [put_n,hn]
   simp only [wpOpsR,hoi]
   rw [← hro]
   cases hl:ri.q with
   | true =>
    have hst:stepAt P call ops ri.o aS (heapT rs h (lastB (fun k=>loudAt rs k && decide (k ∈ acc)) ops.size))=some (ri.v,true,ri.h'):=by
     rw [hloudHere hl,hcongr,s2,hl]
    exact step_wp hc hst r rt hd fun E2 w2 z p1 p2 p3 p4=>ih (i::acc) hga' hla' E2 w2 z _ (by rw [hloudPut hl];exact p1) (xt.trans p2) p3 (hnn _) hvals p4
   | false =>
    have hrd:=ho.rd i ri hri hl (lastB (fun k=>loudAt rs k && decide (k ∈ acc)) ops.size)
     (fun l hl'=>by have:=(lastB_some hl').2.1;simp only [Bool.and_eq_true] at this;exact this.1)
     (fun p hp hlp=>by
      have hpa:=ho.ahead m i acc hgi p hp
      have hps:=hgi.1.lt p hpa
      cases hlast:lastB (fun k=>loudAt rs k && decide (k ∈ acc)) ops.size with
      | none =>
       have:=lastB_none hlast p hps
       simp [hlp,hpa] at this
      | some l=>exact ⟨l,rfl,(lastB_some hlast).2.2 p hps (by simp [hlp,hpa])⟩)
     (by
      rintro l' hl' ⟨l,hlast,hle⟩ hmem
      obtain ⟨z1,z2,z3⟩:=lastB_some hlast
      simp only [Bool.and_eq_true,decide_eq_true_eq] at z2
      have hla:l' ∈ acc:=by
       by_cases e:l' = l
       ·rw [e];exact z2.2
       ·exact closed ho hgi.1 z2.2 l' (ho.ld l l' z2.1 hl' (by omega))
      exact hgi.2.1 (closed ho hgi.1 hla i hmem))
    rw [← hcongr] at hrd
    exact step_wp hc hrd r rt hd fun E2 w2 z p1 p2 p3 p4=>ih (i::acc) hga' hla' E2 w2 z _ (by rw [hquietPut hl];exact p1) (xt.trans p2) p3 (hnn _) hvals p4
 have hnone:∀ p:Nat→Bool,lastB (fun k=>p k && decide (k ∈ ([]:List Nat))) ops.size=none:=by
  intro p
  have:∀ n,lastB (fun k=>p k && decide (k ∈ ([]:List Nat))) n=none:=by
   intro n
   induction n with
   | zero=>rfl
   | succ n ih=>simp only [lastB,List.not_mem_nil,decide_false,Bool.and_false,Bool.false_eq_true,if_false];simpa using ih
  exact this _
 refine go l.reverse [] (by simpa using hg) (by simpa using hl) E w x a (by rw [hnone];exact r0) (.refl E w) rt0 rfl (fun t=>by rw [hnone];rfl) hd0
end
end Go.Ab
end
section
namespace Go.Ab
def veq:Nat→Value→Value→Bool
 | 0,_,_=>false
 | n + 1,x,y=>match x,y with
  | .bool a,.bool b=>a == b
  | .int k a,.int j b=>k == j && a == b
  | .float k a,.float j b=>k == j && a == b
  | .complex k a c,.complex j b d=>k == j && a == b && c == d
  | .string a,.string b=>decide (a=b)
  | .pointer a,.pointer b=>a == b
  | .slice a l c,.slice b k d=>a == b && l == k && c == d
  | .map a,.map b=>a == b
  | .chan a,.chan b=>a == b
  | .func f a c,.func g b d=>f == g && vall n a.toList b.toList && vall n c.toList d.toList
  | .nilFunc,.nilFunc=>true
  | .iface t a,.iface u b=>t == u && veq n a b
  | .nilIface,.nilIface=>true
  | .agg a,.agg b=>vall n a.toList b.toList
  | .tuple a,.tuple b=>vall n a.toList b.toList
  | _,_=>false
 where
 vall (n:Nat):List Value→List Value→Bool
  | [],[]=>true
  | x::l,y::k=>veq n x y && vall n l k
  | _,_=>false
theorem veq_eq:∀ (n:Nat) (x y:Value),veq n x y=true→x=y:=by
 intro n
 induction n with
 | zero=>intro x y h;simp [veq] at h
 | succ n ih =>
  have hl:∀ l k:List Value,veq.vall n l k=true→l=k:=by
   intro l
   induction l with
   | nil=>intro k h;cases k with
    | nil=>rfl
    | cons=>simp [veq.vall] at h
   | cons x l ihl=>intro k h;cases k with
    | nil=>simp [veq.vall] at h
    | cons y k =>
     simp only [veq.vall,Bool.and_eq_true] at h
     rw [ih x y h.1,ihl k h.2]
  have ha:∀ a b:Array Value,veq.vall n a.toList b.toList=true→a=b:=fun a b h=>Array.ext' (hl _ _ h)
  intro x y h
  unfold veq at h
  split at h
  all_goals first
   | (simp only [Bool.and_eq_true,beq_iff_eq,decide_eq_true_eq] at h;simp_all;done)
   | skip
  all_goals first
   | rfl
   | (simp only [Bool.and_eq_true,beq_iff_eq] at h;rw [h.1.1,ha _ _ h.1.2,ha _ _ h.2])
   | (simp only [Bool.and_eq_true,beq_iff_eq] at h;rw [h.1,ih _ _ h.2])
   | (rw [ha _ _ h])
   | cases h
end Go.Ab
end
section
namespace Go.Ab
def free (o:Oper):Bool :=
 match o.op with
 | .move _ | .assign _ | .pick .. | .build .. | .nilCheck _ | .unOp .. | .makeInterface .. | .makeFunc .. | .fieldAddr .. | .field .. | .indexAddr .. | .index .. | .typeAssert .. | .extract ..=>true
 | _=>false
section
variable {P:Program} {ρ:Operand→Option Value}
theorem valH_free {h g:AH} {v:Option Value} {u:Value} (hh:valH h v=some (.val u h)):valH g v=some (.val u g):=by
 obtain ⟨w,rfl,e⟩:=valH_eq hh
 cases e;rfl
theorem free_val {o:Oper} {h g:AH} {v:Value} (hf:free o=true) (hh:absOp P ρ o h=some (.val v h)):absOp P ρ o g=some (.val v g):=by
 unfold free at hf
 unfold absOp at hh ⊢
 cases ho:o.op with
 | move x=>simp only [ho] at hh ⊢;exact valH_free hh
 | assign x=>simp only [ho] at hh ⊢;exact valH_free hh
 | pick c a b=>simp only [ho] at hh ⊢;(repeat' split at hh) <;> first | (simp_all only [];exact valH_free hh) | cases hh
 | build t l=>simp only [ho] at hh ⊢;(repeat' split at hh) <;> first | (simp_all only [];exact valH_free hh) | cases hh
 | nilCheck x =>
  simp only [ho] at hh ⊢
  split at hh
  ·split at hh
   ·rename_i hn;cases hh;rw [if_pos hn]
   ·cases hh
  ·cases hh
 | unOp op t x =>
  simp only [ho] at hh ⊢
  split at hh
  ·split at hh
   ·rename_i hn;rw [if_pos hn];exact valH_free hh
   ·cases hh
  ·cases hh
 | makeInterface t x=>simp only [ho] at hh ⊢;split at hh <;> first | exact valH_free hh | cases hh
 | makeFunc fn l m =>
  simp only [ho] at hh ⊢
  cases fn
  case func f =>
   simp only at hh ⊢
   split at hh
   ·cases hh;rfl
   ·cases hh
  case method f =>
   simp only at hh ⊢
   split at hh
   ·cases hh;rfl
   ·cases hh
  all_goals (cases hh)
 | fieldAddr t x f=>simp only [ho] at hh ⊢;split at hh <;> first | exact valH_free hh | cases hh
 | field t x f=>simp only [ho] at hh ⊢;split at hh <;> first | exact valH_free hh | cases hh
 | indexAddr t x y=>simp only [ho] at hh ⊢;split at hh <;> first | exact valH_free hh | cases hh
 | index t x y=>simp only [ho] at hh ⊢;split at hh <;> first | exact valH_free hh | cases hh
 | typeAssert x a b c=>simp only [ho] at hh ⊢;split at hh <;> first | exact valH_free hh | cases hh
 | extract x i=>simp only [ho] at hh ⊢;split at hh <;> first | exact valH_free hh | cases hh
 | _=>simp [ho] at hf
end
theorem free_loud {P:Program} {o:Oper} (h:free o=true):loud P o=false:=by
 unfold free at h
 unfold loud
 cases ho:o.op <;> rw [ho] at h <;> first | rfl | (cases h;done)
def clo:List Oper→List (List Nat)→List (List Nat)
 | [],acc=>acc
 | o::l,acc=>clo l (acc++[(o.after.toList.filter strong).flatMap fun e=>e.on::acc.getD e.on []])
theorem clo_ahead {ops:Array Oper}:∀ (l:List Oper) (acc:List (List Nat)),ops.toList.drop acc.length=l→acc.length ≤ ops.size →
  (∀ i,∀ j ∈ acc.getD i [],∀ m k,Good m ops (i::k)→j ∈ k)→∀ i,∀ j ∈ (clo l acc).getD i [],∀ m k,Good m ops (i::k)→j ∈ k:=by
 intro l
 induction l with
 | nil=>intro acc _ _ h;exact h
 | cons o l ih =>
  intro acc hd hle h
  have hlt:acc.length < ops.size:=by
   apply Classical.byContradiction
   intro hc
   rw [List.drop_eq_nil_of_le (by simpa using Nat.le_of_not_lt hc)] at hd
   cases hd
  have ho:ops[acc.length]?=some o:=by
   have:ops.toList[acc.length]?=some o:=by
    rw [← List.head?_drop,hd];rfl
   simpa using this
  refine ih _ ?_ (by simp;omega) ?_
  ·rw [List.length_append,List.length_singleton,← List.drop_drop,hd];rfl
  ·intro i j hj m k hg
   by_cases e:i < acc.length
   ·rw [List.getD_eq_getElem?_getD,List.getElem?_append_left e,← List.getD_eq_getElem?_getD] at hj
    exact h i j hj m k hg
   ·by_cases e2:i=acc.length
    ·subst e2
     rw [List.getD_eq_getElem?_getD,List.getElem?_append_right (Nat.le_refl _)] at hj
     simp only [Nat.sub_self,List.getElem?_cons_zero,Option.getD_some,List.mem_flatMap,List.mem_filter] at hj
     obtain ⟨ed,⟨he,hst⟩,hj⟩:=hj
     obtain ⟨hg1,hg2,o',ho',hg3⟩:=hg
     rw [ho] at ho';cases ho'
     have hon:=hg3 ed (by simpa using he) (strong_binds hst m)
     cases hj with
     | head=>exact hon
     | tail _ hj =>
      obtain ⟨l1,l2,rfl⟩:=List.append_of_mem hon
      have:=h ed.on j hj m l2 hg1.drop
      exact List.mem_append_right _ (List.mem_cons_of_mem _ this)
    ·rw [List.getD_eq_getElem?_getD,List.getElem?_eq_none (by simp;omega)] at hj
     cases hj
def below (n:Nat) (f:Nat→Bool):Bool:=(List.range n).all f
theorem below_at {n:Nat} {f:Nat→Bool} (h:below n f=true) {i:Nat} (hi:i < n):f i=true:=List.all_eq_true.1 h i (List.mem_range.2 hi)
def staticB (ops:Array Oper):Bool :=
 backs ops &&
 (let pl:=clo ops.toList []
  below ops.size fun i=>below ops.size fun k=>i == k || match ops[i]?,ops[k]? with
   | some x,some y =>
    (match y.dst with
     | none=>true
     | some d=>if (readsOf ops x).contains d || x.dst == some d then (if k < i then (pl.getD i []).contains k else (pl.getD k []).contains i) else true)
   | _,_=>true)
def feasible (rs:List Rec) (pl:List (List Nat)) (i:Nat) (q:Option Nat):Bool :=
 ((pl.getD i []).all fun p=>!loudAt rs p || (match q with | some l=>decide (p ≤ l) | none=>false)) &&
 (match q with | some l=>below (l + 1) fun l'=>!loudAt rs l' || !(pl.getD l' []).contains i | none=>true)
def sameAt (P:Program) (call:CallF) (ops:Array Oper) (rs:List Rec) (h:AH) (r:Rec) (q:Option Nat):Bool :=
 match stepAt P call ops r.o r.a (heapT rs h q) with
 | some (v,false,_)=>veq 12 v r.v
 | _=>false
def freeRec (ops:Array Oper) (r:Rec):Bool:=(free r.o && !loudOp r.o) || !Region.wanted r.o (r.a.yielded ops)
 where loudOp (o:Oper):Bool:=match o.op with | .call _=>true | _=>false
def dynB (P:Program) (call:CallF) (ops:Array Oper) (rs:List Rec) (h:AH) (pl:List (List Nat)):Bool :=
 (below rs.length fun i=>!loudAt rs i || below i fun k=>!loudAt rs k || (pl.getD i []).contains k) &&
 below rs.length fun i=>match rs[i]? with
  | some r=>r.q || freeRec ops r ||
   (let t:=lastB (loudAt rs) i
    (t == none || !feasible rs pl i none || sameAt P call ops rs h r none) && below rs.length fun l=>!loudAt rs l || t == some l || !feasible rs pl i (some l) || sameAt P call ops rs h r (some l))
  | none=>true
def drawRun (P:Program) (call:CallF) (ops:Array Oper) (a:AA) (h:AH):Option (AA × AH) :=
 if staticB ops then match trace P call ops ops.toList a h with
  | some (rs,a₂,h₂)=>if dynB P call ops rs h (clo ops.toList []) then some (a₂,h₂) else none
  | none=>none
 else none
theorem drawRun_ok {P:Program} {ro:Option Nat} {D:List Deferred} {call:CallF} (hc:CallOk P call) {ops:Array Oper} {a a₂:AA} {h h₂:AH} (hd:drawRun P call ops a h=some (a₂,h₂)) {id:Nat} {E:Ren} {w:World} {x:Act}
  {Q:Exit→Act→World→Prop} (r:RW P E h w) (rt:RT E a x.tmps) (hdf:x.defers=D)
  (hQ:∀ E' w' y,RW P E' h₂ w'→Ext E w E' w'→RT E' a₂ y.tmps→y.defers=D→Q .normal y w'):(Code.region id ops true).wpR ro P Q x w:=by
 unfold drawRun at hd
 split at hd
 case isFalse=>cases hd
 rename_i hst
 split at hd
 case h_2=>cases hd
 rename_i rs a₃ h₃ ht
 split at hd
 case isFalse=>cases hd
 rename_i hdy
 cases hd
 unfold staticB at hst
 simp only [Bool.and_eq_true] at hst
 obtain ⟨hback,hst⟩:=hst
 unfold dynB at hdy
 rw [Bool.and_eq_true] at hdy
 obtain ⟨hld,hdy⟩:=hdy
 obtain ⟨q1,q2,q3,q4,q5,q6⟩:=trace_get ht
 have q1':rs.length=ops.size:=by rw [q1];simp
 have hops:∀ (i:Nat) y,rs[i]?=some y→ops[i]?=some y.o∧i < ops.size:=by
  intro i y hy
  refine ⟨?_,by have:=(List.getElem?_eq_some_iff.1 hy).1;omega⟩
  have:=(q2 i y hy).1
  simpa using this
 have hpair:∀ i k x y,rs[i]?=some x→rs[k]?=some y→i ≠ k →
   (∀ d,y.o.dst=some d→(d ∈ readsOf ops x.o ∨ x.o.dst=some d)→(k < i→k ∈ (clo ops.toList []).getD i [])∧(i < k→i ∈ (clo ops.toList []).getD k [])):=by
  intro i k x y hx hy hne d hd hr
  obtain ⟨o1,l1⟩:=hops i x hx
  obtain ⟨o2,l2⟩:=hops k y hy
  have t1:=below_at (below_at hst l1) l2
  simp only [o1,o2,Bool.or_eq_true,beq_iff_eq,hne,false_or] at t1
  rw [hd] at t1
  simp only at t1
  rw [if_pos (by simpa using hr)] at t1
  refine ⟨fun hk=>?_,fun hk=>?_⟩
  ·rw [if_pos hk] at t1;simpa using t1
  ·rw [if_neg (by omega)] at t1;simpa using t1
 have hlt:∀ i,loudAt rs i=true→i < rs.length:=by
  intro i hi
  unfold loudAt at hi
  split at hi
  ·rename_i y hy;exact (List.getElem?_eq_some_iff.1 hy).1
  ·cases hi
 have hord:Ordered P call ops rs a.n h fun i=>(clo ops.toList []).getD i []:=by
  refine ⟨fun m i l hg j hj=>clo_ahead ops.toList [] (by simp) (by simp) (fun i j hj=>by simp at hj) i j hj m l hg,fun i k x y d hx hy hne hd hlt hr=>hpair i k x y hx hy hne d hd hr,fun i k hi hk hki=>?_,?_⟩
  ·have:=below_at hld (hlt i hi)
   rw [hi] at this
   simp only [Bool.not_true,Bool.false_or] at this
   have:=below_at this hki
   rw [hk] at this
   simpa using this
  ·intro i r hr hq q hql hf1 hf2
   obtain ⟨o1,l1⟩:=hops i r hr
   obtain ⟨s1,s2⟩:=q2 i r hr
   obtain ⟨g1,g2,g3⟩:=text_get hc ht i r hr
   rw [hq] at s2
   have hh:=quiet_step hc s2
   rw [hh] at s2
   have hdy':=below_at hdy (q1' ▸ l1)
   rw [hr] at hdy'
   simp only [hq,Bool.false_or,Bool.or_eq_true,Bool.and_eq_true] at hdy'
   rcases hdy' with hfree | ⟨hn,hs⟩
   ·
    unfold stepAt at s2 ⊢
    split at s2
    case isFalse=>cases s2
    rename_i hk
    rw [if_pos hk]
    split at s2
    ·rename_i hw
     rw [if_pos hw]
     unfold freeRec at hfree
     rw [hw] at hfree
     simp only [Bool.not_true,Bool.or_false,Bool.and_eq_true] at hfree
     have hfz:(if varArg ops r.o then frozOf P (r.a.opnd P) r.o else none)=none:=by
      split
      ·unfold frozOf
       split
       ·rename_i ho
        have:=hfree.1
        unfold free at this
        rw [ho] at this
        cases this
       ·rfl
      ·rfl
     rw [hfz] at s2 ⊢
     simp only at s2 ⊢
     split at s2
     ·rename_i u g hop
      have e1:u=r.v:=congrArg (fun x=>x.1) (Option.some.inj s2)
      have e2:loud P r.o=false:=congrArg (fun x=>x.2.1) (Option.some.inj s2)
      have e3:g=r.h:=congrArg (fun x=>x.2.2) (Option.some.inj s2)
      subst e1
      rw [e3] at hop
      rw [free_val hfree.1 hop,e2]
     ·exact absurd (congrArg (fun x=>x.2.1) (Option.some.inj s2)) (by simp)
     ·rename_i f args g hop
      obtain ⟨u,hu⟩:=quiet_val (free_loud hfree.1) hop
      cases hu
     ·cases s2
    ·rename_i hw
     rw [if_neg hw]
     have ev:undef=r.v:=congrArg (fun x=>x.1) (Option.some.inj s2)
     rw [← ev]
   ·have fin:sameAt P call ops rs h r q=true→stepAt P call ops r.o r.a (heapT rs h q)=some (r.v,false,heapT rs h q):=by
     intro hsame
     unfold sameAt at hsame
     split at hsame
     ·rename_i v g hop
      rw [hop,quiet_step hc hop,veq_eq _ _ _ hsame]
     ·cases hsame
    have text:lastB (loudAt rs) i=q→stepAt P call ops r.o r.a (heapT rs h q)=some (r.v,false,heapT rs h q):=by
     intro e
     rw [← e,← g3];exact s2
    have hfeas:feasible rs (clo ops.toList []) i q=true:=by
     unfold feasible
     simp only [Bool.and_eq_true,List.all_eq_true,Bool.or_eq_true,Bool.not_eq_true']
     refine ⟨fun p hp=>?_,?_⟩
     ·cases hlp:loudAt rs p with
      | false=>exact .inl rfl
      | true =>
       right
       obtain ⟨l,rfl,hle⟩:=hf1 p hp hlp
       simpa using hle
     ·cases q with
      | none=>rfl
      | some l =>
       simp only [below,List.all_eq_true,List.mem_range,Bool.or_eq_true,Bool.not_eq_true']
       intro l' hl'
       cases hlp:loudAt rs l' with
       | false=>exact .inl rfl
       | true =>
        right
        have:=hf2 l' hlp ⟨l,rfl,by omega⟩
        simpa using this
    cases q with
    | none =>
     rcases hn with (e | e) | e
     ·exact text (by simpa using e)
     ·rw [hfeas] at e;cases e
     ·exact fin e
    | some l =>
     have hll:=hql l rfl
     have:=below_at hs (hlt l hll)
     simp only [hll,hfeas,Bool.not_true,Bool.false_or,Bool.or_false,Bool.or_eq_true] at this
     rcases this with e | e
     ·exact text (by simpa using e)
     ·exact fin e
 refine wpR_region_draw fun t=>?_
 obtain ⟨m,l,e,hg,hl⟩:=schedule_good (mixed:=P.follows .mixedOrders) hback t
 rw [e]
 have rd:RW P E h { w with drawn:=w.drawn + 1 }:=r.of_heap rfl
 exact draw_wp hc ht hord rd rt hdf (fun E' w' y p1 p2 p3 p4=>hQ E' w' y p1 (p2.of_heap rfl rfl rfl rfl (Nat.le_succ _)) p3 p4) hg hl
def CallLogs (call:CallF):Prop:=∀ f args h v q h',call f args h=some (v,q,h')→Logs h h'
theorem step_logs {P:Program} {call:CallF} (hl:CallLogs call) {ops:Array Oper} {o:Oper} {a:AA} {h h':AH} {v:Value} {q:Bool} (hs:stepAt P call ops o a h=some (v,q,h')):Logs h h':=by
 unfold stepAt at hs
 split at hs
 case isFalse=>cases hs
 split at hs
 ·split at hs
  ·cases hs;exact .refl _
  split at hs
  ·rename_i u g hop;cases hs;exact absOp_logs hop
  ·rename_i g hop;cases hs;exact absOp_logs hop
  ·rename_i f args g hop;exact (absOp_logs hop).trans (hl f args g v q h' hs)
  ·cases hs
 ·cases hs;exact .refl _
theorem trace_logs {P:Program} {call:CallF} (hl:CallLogs call) {ops:Array Oper}:∀ {l:List Oper} {a:AA} {h:AH} {rs:List Rec} {a₂:AA} {h₂:AH},trace P call ops l a h=some (rs,a₂,h₂)→Logs h h₂:=by
 intro l
 induction l with
 | nil=>intro a h rs a₂ h₂ ht;cases ht;exact .refl _
 | cons o l ih =>
  intro a h rs a₂ h₂ ht
  simp only [trace] at ht
  split at ht
  ·rename_i v q h' hs
   split at ht
   ·rename_i rs' a₃ h₃ ht'
    cases ht
    exact (step_logs hl hs).trans (ih ht')
   ·cases ht
  ·cases ht
theorem drawRun_logs {P:Program} {call:CallF} (hl:CallLogs call) {ops:Array Oper} {a a₂:AA} {h h₂:AH} (hd:drawRun P call ops a h=some (a₂,h₂)):Logs h h₂:=by
 unfold drawRun at hd
 split at hd
 case isFalse=>cases hd
 split at hd
 case h_2=>cases hd
 rename_i rs a₃ h₃ ht
 split at hd
 case isFalse=>cases hd
 cases hd
 exact trace_logs hl ht
end Go.Ab
end
