import Derived.Test.YtgdnfoijhdpppaaDoorZ13
set_option linter.unusedVariables false
set_option linter.unusedSimpArgs false
section
namespace Go.Ab
def exP (P:Program) (f:FuncId) (args:Array Value) (h:AH) (k:Value→AH→Prop):Prop:=∃ v h',Ex P f args h v h'∧k v h'
def enterX (P:Program) (f:FuncId) (args:List Value) (h:AH) (k:Value→AH→Prop):Prop :=
 match P.funcs[f]? with
 | some fn=>if fn.name == "runtime.NumGoroutine" then False else if fn.body.isNone then (if isExt fn then bq (extO fn.name args h) fun r=>k r.1 r.2 else bq (externV P f args) fun v=>k v h) else exP P f args.toArray h k
 | none=>False
def callX (P:Program) (fv:Value) (args:List Value) (h:AH) (k:Value→AH→Prop):Prop:=match fv with
 | .func (.func g) first captured=>enterX P g (first.toList++args++captured.toList) h k
 | _=>False
def invokeX (P:Program) (rv:Value) (name:String) (args:List Value) (h:AH) (k:Value→AH→Prop):Prop:=match rv with
 | .iface t v=>match methodOf P t v name with
  | some (g,r)=>enterX P g (r::args) h k
  | none=>False
 | _=>False
def wpOpX (P:Program) (ρ:Operand→Option Value) (o:Oper) (h:AH) (k:Value→AH→Prop):Prop :=
 match o.op with
 | .call c=>match c.callee with
  | .value f=>oq (listOf ρ c.args.toList) fun args=>oq (ρ f) fun fv=>callX P fv args h k
  | .invoke recv name=>oq (listOf ρ c.args.toList) fun args=>oq (ρ recv) fun rv=>invokeX P rv name args h k
  | .builtin _=>wpCall P ρ c o.type h k fun _ _=>False
 | .panic _=>False
 | .next ..=>False
 | _=>wpOp P ρ o h k fun _ _=>False
def outX (P:Program) (out:Out) (k:Value→AH→Prop):Prop:=match out with
 | .val v h=>k v h
 | .unit h=>k undef h
 | .enter f args h=>exP P f args h k
section
variable {P:Program} {ρ:Operand→Option Value} {h:AH} {k:Value→AH→Prop}
theorem enterX_abs {f:FuncId} {args:List Value} (hh:enterX P f args h k):∃ out,enterOf P f args h=some out∧outX P out k:=by
 unfold enterX at hh
 unfold enterOf
 cases hf:P.funcs[f]? with
 | none=>rw [hf] at hh;cases hh
 | some fn =>
  rw [hf] at hh
  simp only at hh ⊢
  split at hh
  ·cases hh
  ·rename_i hn
   rw [if_neg hn]
   split at hh
   ·rename_i hb
    rw [if_pos hb]
    split at hh
    ·rename_i hx
     rw [if_pos hx]
     obtain ⟨y,e,hk⟩:=bq_eq hh
     exact ⟨.val y.1 y.2,by simp only [e];rfl,hk⟩
    rename_i hx
    rw [if_neg hx]
    obtain ⟨v,e,hk⟩:=bq_eq hh
    unfold externV at e
    split at e
    ·rename_i hp
     rw [if_pos hp]
     split at e
     ·rename_i u hu
      split at e
      ·rename_i hpu
       cases e
       exact ⟨.val v h,by simp only [hu,hpu,if_true],hk⟩
      ·cases e
     ·cases e
    ·cases e
   ·rename_i hb
    rw [if_neg hb]
    exact ⟨_,rfl,hh⟩
theorem outK_X {out:Out} (hne:∀ f args g,out ≠ .enter f args g) (hh:outK P out k fun _ _=>False):outX P out k:=by
 cases out with
 | val v h=>exact hh
 | unit h=>exact hh
 | enter f args g=>exact absurd rfl (hne f args g)
theorem wpOpX_abs {o:Oper} (hh:wpOpX P ρ o h k):∃ out,absOp P ρ o h=some out∧outX P out k:=by
 unfold wpOpX at hh
 have plainCase:(∀ x,o.op ≠ .panic x)→(∀ it s,o.op ≠ .next it s)→(∀ c,o.op ≠ .call c)→wpOp P ρ o h k (fun _ _=>False)→∃ out,absOp P ρ o h=some out∧outX P out k:=by
  intro h1 h0 h2 hw
  obtain ⟨out,hop,hk⟩:=wpOp_abs h1 h0 (fun c f l e=>absurd e (h2 c)) hw
  refine ⟨out,hop,outK_X ?_ hk⟩
  rintro f args g rfl
  have noVal:∀ {v:Option Value},valH h v=some (.enter f args g)→False:=fun e=>by obtain ⟨u,_,e⟩:=valH_eq e;cases e
  have noValP:∀ {v:Option (Value × AH)},valP v=some (.enter f args g)→False:=fun e=>by obtain ⟨u,g,_,e⟩:=valP_eq e;cases e
  unfold absOp at hop
  repeat' split at hop
  all_goals first
   | (cases hop;done)
   | (exact noVal hop)
   | (exact noValP hop)
   | (rename_i ho;exact h2 _ ho)
   | skip
  ·unfold absBin at hop
   repeat' split at hop
   all_goals first
    | (cases hop;done)
    | (exact noVal hop)
  ·unfold absConvert at hop
   repeat' split at hop
   all_goals first
    | (cases hop;done)
    | (exact noVal hop)
 cases ho:o.op with
 | call c =>
  rw [ho] at hh
  simp only at hh
  unfold absOp
  rw [ho]
  simp only
  cases hc:c.callee with
  | builtin b =>
   rw [hc] at hh
   obtain ⟨out,hop,hk⟩:=wpCall_abs (fun f l e=>by rw [hc] at e;cases e) hh
   refine ⟨out,hop,outK_X ?_ hk⟩
   rintro f args g rfl
   have noVal:∀ {v:Option Value},valH h v=some (.enter f args g)→False:=fun e=>by obtain ⟨u,_,e⟩:=valH_eq e;cases e
   have noValP:∀ {v:Option (Value × AH)},valP v=some (.enter f args g)→False:=fun e=>by obtain ⟨u,g,_,e⟩:=valP_eq e;cases e
   unfold absCall at hop
   rw [hc] at hop
   cases b <;> (simp only at hop;repeat' split at hop) <;> first
    | (cases hop;done)
    | (exact noVal hop)
    | (exact noValP hop)
  | value f =>
   rw [hc] at hh
   obtain ⟨args,e1,hh⟩:=oq_eq hh
   obtain ⟨fv,e2,hh⟩:=oq_eq hh
   unfold absCall
   simp only [e1,hc,e2]
   unfold callX at hh
   split at hh
   ·exact enterX_abs hh
   ·cases hh
  | invoke recv name =>
   rw [hc] at hh
   obtain ⟨args,e1,hh⟩:=oq_eq hh
   obtain ⟨rv,e2,hh⟩:=oq_eq hh
   unfold absCall
   simp only [e1,hc,e2]
   unfold invokeX at hh
   split at hh
   ·rename_i t v
    simp only
    cases hm:methodOf P t v name with
    | none=>rw [hm] at hh;cases hh
    | some gr =>
     obtain ⟨g,r⟩:=gr
     rw [hm] at hh
     exact enterX_abs hh
   ·cases hh
 | panic x=>rw [ho] at hh;cases hh
 | next it s=>rw [ho] at hh;cases hh
 | _=>exact plainCase (fun x e=>by rw [ho] at e;cases e) (fun it s e=>by rw [ho] at e;cases e) (fun c e=>by rw [ho] at e;cases e) (by rw [ho] at hh;exact hh)
end
def wpX (P:Program) (ops:Array Oper):List Oper→AA→AH→(AA→AH→Prop)→Prop
 | [],a,h,Q=>Q a h
 | o::l,a,h,Q=>match o.guard with
  | none=>wpOpX P (a.opnd P) o h fun v h'=>wpX P ops l (a.put o.dst v) h' Q
  | some (j,want)=>match (ops[j]?).bind (·.dst) with
   | some d=>if d < a.n then oq (a.get d) fun x=>guardQ x want h (fun k=>wpOpX P (a.opnd P) o h k) fun v h'=>wpX P ops l (a.put o.dst v) h' Q
    else wpX P ops l (a.put o.dst undef) h Q
   | none=>wpX P ops l (a.put o.dst undef) h Q
theorem clo_lt {ops:Array Oper} (hb:backs ops=true):∀ i k,k ∈ (clo ops.toList []).getD i []→k < i:=by
 have key:∀ (l:List Oper) (acc:List (List Nat)),ops.toList.drop acc.length=l→(∀ i k,k ∈ acc.getD i []→k < i)→∀ i k,k ∈ (clo l acc).getD i []→k < i:=by
  intro l
  induction l with
  | nil=>intro acc _ h;exact h
  | cons o l ih =>
   intro acc hd h
   have ho:ops[acc.length]?=some o:=by
    have:ops.toList[acc.length]?=some o:=by rw [← List.head?_drop,hd];rfl
    simpa using this
   refine ih _ ?_ ?_
   ·rw [List.length_append,List.length_singleton,← List.drop_drop,hd];rfl
   ·intro i k hk
    by_cases e:i < acc.length
    ·rw [List.getD_eq_getElem?_getD,List.getElem?_append_left e,← List.getD_eq_getElem?_getD] at hk
     exact h i k hk
    ·by_cases e2:i=acc.length
     ·subst e2
      rw [List.getD_eq_getElem?_getD,List.getElem?_append_right (Nat.le_refl _)] at hk
      simp only [Nat.sub_self,List.getElem?_cons_zero,Option.getD_some,List.mem_flatMap,List.mem_filter] at hk
      obtain ⟨ed,⟨he,hst⟩,hk⟩:=hk
      have hlt:=backs_lt hb ho ed (by simpa using he) hst
      cases hk with
      | head=>exact hlt
      | tail _ hk=>have:=h ed.on k hk;omega
     ·rw [List.getD_eq_getElem?_getD,List.getElem?_eq_none (by simp;omega)] at hk
      cases hk
 exact key ops.toList [] (by simp) (fun i k hk=>by simp at hk)
def freeO (o:Oper):Bool:=free o && match o.op with | .call _=>false | _=>true
structure Step1 (P:Program) (ops:Array Oper) (o:Oper) (a:AA) (h:AH) (v:Value) (q:Bool) (h':AH):Prop where
 quiet:q=false→h' = h
 loud:q=true→loud P o=true
 step:∀ b:AA,b.n=a.n→(∀ t ∈ readsOf ops o,b.get t=a.get t)→StepW P ops o b h v h'
 free:freeO o=true→∀ (g:AH) (b:AA),b.n=a.n→(∀ t ∈ readsOf ops o,b.get t=a.get t)→StepW P ops o b g v g
def wpG (P:Program) (ops:Array Oper) (o:Oper) (a:AA) (h:AH) (k:Value→AH→Prop):Prop:=match o.guard with
 | none=>wpOpX P (a.opnd P) o h k
 | some (j,want)=>match (ops[j]?).bind (·.dst) with
  | some d=>if d < a.n then oq (a.get d) fun x=>guardQ x want h (fun k=>wpOpX P (a.opnd P) o h k) k
   else k undef h
  | none=>k undef h
theorem stepG {P:Program} {ops:Array Oper} {o:Oper} {a:AA} {h:AH} {kk:Value→AH→Prop} (hh:wpG P ops o a h kk) :
  ∃ v q h',Step1 P ops o a h v q h'∧kk v h':=by
 have run:∀ (k:Value→AH→Prop),wpOpX P (a.opnd P) o h k→(∀ b:AA,b.n=a.n→(∀ t ∈ readsOf ops o,b.get t=a.get t)→∀ E (y:Act),RT E b y.tmps→Region.wanted o (Go.yielded ops y.tmps)=true) →
   ∃ v q h',Step1 P ops o a h v q h'∧k v h':=by
  intro k hw hwant
  obtain ⟨out,hop,hk⟩:=wpOpX_abs hw
  have hopb:∀ b:AA,(∀ t ∈ readsOf ops o,b.get t=a.get t)→absOp P (b.opnd P) o h=some out:=by
   intro b hb
   rw [← hop]
   refine absOp_congr fun x hx=>?_
   cases x with
   | tmp t=>exact hb t (List.mem_append_left _ (List.mem_filterMap.2 ⟨.tmp t,hx,rfl⟩))
   | _=>rfl
  have stepVal:∀ (g g':AH) (b:AA) (v:Value),b.n=a.n→(∀ t ∈ readsOf ops o,b.get t=a.get t)→absOp P (b.opnd P) o g=some (.val v g')→StepW P ops o b g v g':=by
   intro g g' b v hn hb hop ro E w y K W r rt hK
   rw [if_pos (hwant b hn hb E y rt)]
   obtain ⟨E',v',w',h1,h2,h3,h4⟩:=absOp_ok r (rt.opnd r) hop
   exact wpR_value (abs_nodefer hop) h1 (hK E' w' v' h2 h3 h4)
  have noFree:(∀ v,out ≠ .val v h)→freeO o=true→False:=by
   intro hne hf
   unfold freeO at hf
   rw [Bool.and_eq_true] at hf
   obtain ⟨u,hu⟩:=quiet_val (free_loud hf.1) hop
   exact hne u hu
  cases out with
  | val v h' =>
   refine ⟨v,Ab.loud P o,h',⟨fun hq=>?_,fun hq=>hq,fun b hn hb=>stepVal h h' b v hn hb (hopb b hb),fun hf g b hn hb=>?_⟩,hk⟩
   ·obtain ⟨u,hu⟩:=quiet_val hq hop;cases hu;rfl
   ·unfold freeO at hf
    rw [Bool.and_eq_true] at hf
    obtain ⟨u,hu⟩:=quiet_val (free_loud hf.1) hop
    have hob:=hopb b hb
    cases hu
    exact stepVal g g b v hn hb (free_val hf.1 hob)
  | unit h' =>
   refine ⟨undef,true,h',⟨(fun hq=>by cases hq),fun _=>?_,fun b hn hb ro E w y K W r rt hK=>?_,fun hf=>(noFree (fun v e=>by cases e) hf).elim⟩,hk⟩
   ·cases hl:Ab.loud P o with
    | true=>rfl
    | false=>obtain ⟨u,hu⟩:=quiet_val hl hop;cases hu
   ·rw [if_pos (hwant b hn hb E y rt)]
    obtain ⟨E',w',h1,h2,h3⟩:=absOp_ok r (rt.opnd r) (hopb b hb)
    exact wpR_skip (abs_nodefer hop) h1 (hK E' w' undef h2 h3 rv_undef)
  | enter f args h1 =>
   obtain ⟨v,h',hex,hk⟩:=hk
   refine ⟨v,true,h',⟨(fun hq=>by cases hq),fun _=>?_,fun b hn hb ro E w y K W r rt hK=>?_,fun hf=>(noFree (fun v e=>by cases e) hf).elim⟩,hk⟩
   ·cases hl:Ab.loud P o with
    | true=>rfl
    | false=>obtain ⟨u,hu⟩:=quiet_val hl hop;cases hu
   ·rw [if_pos (hwant b hn hb E y rt)]
    obtain ⟨E',args',w',g1,g2,g3,g4⟩:=absOp_ok r (rt.opnd r) (hopb b hb)
    refine wpR_enter (abs_nodefer hop) g1 ((hex E' w' args' g2 g4).mono ?_)
    rintro e w'' ⟨E'',res,h'',q1,q2,q3,rfl,rfl⟩
    cases e with
    | returned v'=>exact hK E'' w'' v' q2 (g3.trans q3) q1
    | _=>cases q1
 have skip:(∀ b:AA,b.n=a.n→(∀ t ∈ readsOf ops o,b.get t=a.get t)→∀ E (y:Act),RT E b y.tmps→Region.wanted o (Go.yielded ops y.tmps)=false)→Step1 P ops o a h undef false h :=
  fun hw=>⟨fun _=>rfl,(fun hq=>by cases hq),fun b hn hb ro E w y K W r rt hK=>by rw [if_neg (by rw [hw b hn hb E y rt];simp)];exact hK E w undef r (.refl E w) rv_undef,
   fun _ g b hn hb ro E w y K W r rt hK=>by rw [if_neg (by rw [hw b hn hb E y rt];simp)];exact hK E w undef r (.refl E w) rv_undef⟩
 unfold wpG at hh
 split at hh
 ·rename_i hg
  obtain ⟨v,q,h',s,hk⟩:=run _ hh fun b _ _ E y _=>by unfold Region.wanted;rw [hg]
  exact ⟨v,q,h',s,hk⟩
 ·rename_i j want hg
  have hrd:∀ d,(ops[j]?).bind (·.dst)=some d→d ∈ readsOf ops o:=fun d hd=>by simp [readsOf,hg,hd]
  split at hh
  ·rename_i d hd
   split at hh
   ·rename_i hlt
    obtain ⟨x,hx,hh⟩:=oq_eq hh
    have wn:∀ b:AA,b.n=a.n→(∀ t ∈ readsOf ops o,b.get t=a.get t)→∀ E (y:Act),RT E b y.tmps→Region.wanted o (Go.yielded ops y.tmps)=((match x with | .bool c=>some c | _=>none) == some want):=by
     intro b hn hb E y rt
     have hbd:b.get d=some x:=by rw [hb d (hrd d hd)];exact hx
     have hkn:b.knows ops o=true:=by
      unfold AA.knows
      rw [hg]
      simp only [hd,hn,hlt,if_true,hbd,Option.isSome_some]
     rw [← rt.yielded ops hkn]
     unfold Region.wanted AA.yielded
     rw [hg]
     simp only [hd,hn,hlt,if_true,hbd]
     cases x <;> rfl
    rw [guardQ_iff] at hh
    unfold guardI at hh
    cases x with
    | bool c =>
     simp only at hh
     split at hh
     ·rename_i e
      obtain ⟨v,q,h',s,hk⟩:=run _ hh fun b hn hb E y rt=>by rw [wn b hn hb E y rt];simp [e]
      exact ⟨v,q,h',s,hk⟩
     ·rename_i e
      exact ⟨undef,false,h,skip fun b hn hb E y rt=>by rw [wn b hn hb E y rt];simp [e],hh⟩
    | _=>exact ⟨undef,false,h,skip fun b hn hb E y rt=>by rw [wn b hn hb E y rt];rfl,hh⟩
   ·rename_i hlt
    refine ⟨undef,false,h,skip fun b hn hb E y rt=>?_,hh⟩
    have hkn:b.knows ops o=true:=by
     unfold AA.knows
     rw [hg]
     simp only [hd,hn,hlt,if_false]
    rw [← rt.yielded ops hkn]
    unfold Region.wanted AA.yielded
    rw [hg]
    simp only [hd,hn,hlt,if_false]
    rfl
  ·rename_i hd
   refine ⟨undef,false,h,skip fun b hn hb E y rt=>?_,hh⟩
   have hkn:b.knows ops o=true:=by
    unfold AA.knows
    rw [hg]
    simp only [hd]
   rw [← rt.yielded ops hkn]
   unfold Region.wanted AA.yielded
   rw [hg]
   simp only [hd]
   rfl
theorem wpX_cons {P:Program} {ops:Array Oper} {o:Oper} {l:List Oper} {a:AA} {h:AH} {Q:AA→AH→Prop}:wpX P ops (o::l) a h Q=wpG P ops o a h fun v h'=>wpX P ops l (a.put o.dst v) h' Q:=rfl
theorem step1 {P:Program} {ops:Array Oper} {o:Oper} {l:List Oper} {a:AA} {h:AH} {Q:AA→AH→Prop} (hh:wpX P ops (o::l) a h Q) :
  ∃ v q h',Step1 P ops o a h v q h'∧wpX P ops l (a.put o.dst v) h' Q:=stepG (wpX_cons ▸ hh)
inductive Run1 (P:Program) (ops:Array Oper):List Oper→AA→AH→List Rec→AA→AH→Prop
 | nil (a:AA) (h:AH):Run1 P ops [] a h [] a h
 | cons {o:Oper} {l:List Oper} {a a₂:AA} {h h' h₂:AH} {v:Value} {q:Bool} {rs:List Rec} (s:Step1 P ops o a h v q h') (t:Run1 P ops l (a.put o.dst v) h' rs a₂ h₂) :
   Run1 P ops (o::l) a h (⟨o,a,h,v,q,h'⟩::rs) a₂ h₂
theorem wpX_run {P:Program} {ops:Array Oper} {Q:AA→AH→Prop}:∀ {l:List Oper} {a:AA} {h:AH},wpX P ops l a h Q→∃ rs a₂ h₂,Run1 P ops l a h rs a₂ h₂∧Q a₂ h₂:=by
 intro l
 induction l with
 | nil=>intro a h hh;exact ⟨[],a,h,.nil a h,hh⟩
 | cons o l ih =>
  intro a h hh
  obtain ⟨v,q,h',s,hh⟩:=step1 hh
  obtain ⟨rs,a₂,h₂,t,hq⟩:=ih hh
  exact ⟨_,a₂,h₂,.cons s t,hq⟩
section
variable {P:Program} {ops:Array Oper}
theorem Run1.get {l:List Oper} {a a₂:AA} {h h₂:AH} {rs:List Rec} (ht:Run1 P ops l a h rs a₂ h₂) :
  rs.length=l.length∧(∀ (i:Nat) r,rs[i]?=some r→l[i]?=some r.o∧Step1 P ops r.o r.a r.h r.v r.q r.h') ∧
  (∀ r,rs[0]?=some r→r.a=a∧r.h=h)∧(∀ (i:Nat) r q,rs[i]?=some r→rs[i + 1]?=some q→q.a=r.a.put r.o.dst r.v∧q.h=r.h') ∧
  (rs=[]→a₂=a∧h₂=h)∧(∀ r,rs[rs.length - 1]?=some r→a₂=r.a.put r.o.dst r.v∧h₂=r.h'):=by
 induction ht with
 | nil a h=>simp
 | @cons o l a a₂ h h' h₂ v q rs s t ih =>
  obtain ⟨q1,q2,q3,q4,q5,q6⟩:=ih
  refine ⟨by simp [q1],fun i r hr=>?_,fun r hr=>?_,fun i r q hr hq=>?_,(fun e=>by cases e),fun r hr=>?_⟩
  ·cases i with
   | zero=>simp at hr;subst hr;exact ⟨rfl,s⟩
   | succ i=>simpa using q2 i r (by simpa using hr)
  ·simp at hr;subst hr;exact ⟨rfl,rfl⟩
  ·cases i with
   | zero =>
    simp at hr hq;subst hr
    obtain ⟨g1,g2⟩:=q3 q (by simpa using hq)
    exact ⟨g1,g2⟩
   | succ i=>exact q4 i r q (by simpa using hr) (by simpa using hq)
  ·cases hrs:rs with
   | nil =>
    subst hrs
    simp at hr;subst hr
    exact q5 rfl
   | cons r0 rs0 =>
    refine q6 r ?_
    rw [hrs] at hr ⊢
    simpa using hr
theorem Run1.rnd {l:List Oper} {a a₂:AA} {h h₂:AH} {rs:List Rec} (ht:Run1 P ops l a h rs a₂ h₂):a₂.rnd=a.rnd:=by
 induction ht with
 | nil a h=>rfl
 | cons s t ih=>rw [ih,AA.put_rnd]
theorem Run1.vals {a a₂:AA} {h h₂:AH} {rs:List Rec} (ht:Run1 P ops ops.toList a h rs a₂ h₂):(∀ (i:Nat) r,rs[i]?=some r→r.a.n=a.n∧∀ t,r.a.get t=valT rs a t (lastB (writesAt rs a.n t) i)) ∧
  a₂.n=a.n∧∀ t,a₂.get t=valT rs a t (lastB (writesAt rs a.n t) ops.size):=by
 obtain ⟨q1,q2,q3,q4,q5,q6⟩:=ht.get
 have put:∀ (r:Rec) (t i:Nat),rs[i]?=some r→r.a.n=a.n→r.a.get t=valT rs a t (lastB (writesAt rs a.n t) i)→(r.a.put r.o.dst r.v).get t=valT rs a t (lastB (writesAt rs a.n t) (i + 1)):=by
  intro r t i hp g1 g2
  simp only [lastB,writesAt,hp]
  cases hd:r.o.dst with
  | none=>simp only [AA.put];rw [g2];rfl
  | some d =>
   rw [AA.get_put,g1]
   by_cases hdt:d=t∧d < a.n
   ·obtain ⟨rfl,hdn⟩:=hdt
    simp [hdn,valT,hp]
   ·rw [if_neg hdt,g2]
    have:(some d == some t && decide (t < a.n))=false:=by
     rw [Bool.and_eq_false_iff]
     by_cases e:d=t
     ·subst e;right;simpa using fun h=>hdt ⟨rfl,h⟩
     ·left;simpa using e
    rw [this]
    rfl
 have key:∀ (i:Nat) r,rs[i]?=some r→r.a.n=a.n∧∀ t,r.a.get t=valT rs a t (lastB (writesAt rs a.n t) i):=by
  intro i
  induction i with
  | zero=>intro r hr;rw [(q3 r hr).1];exact ⟨rfl,fun t=>rfl⟩
  | succ i ih =>
   intro r hr
   have hlt:i < rs.length:=by have:=(List.getElem?_eq_some_iff.1 hr).1;omega
   have hp:rs[i]?=some rs[i]:=List.getElem?_eq_getElem hlt
   obtain ⟨g1,g2⟩:=ih rs[i] hp
   rw [(q4 i rs[i] r hp hr).1]
   exact ⟨by rw [put_n,g1],fun t=>put _ t i hp g1 (g2 t)⟩
 refine ⟨key,?_⟩
 have q1':rs.length=ops.size:=by rw [q1];simp
 cases hn:ops.size with
 | zero =>
  have:rs=[]:=List.eq_nil_of_length_eq_zero (by omega)
  rw [(q5 this).1]
  exact ⟨rfl,fun t=>rfl⟩
 | succ i =>
  have hlt:i < rs.length:=by omega
  have hp:rs[i]?=some rs[i]:=List.getElem?_eq_getElem hlt
  obtain ⟨g1,g2⟩:=key i rs[i] hp
  rw [(q6 rs[i] (by rw [q1',hn];exact hp)).1]
  exact ⟨by rw [put_n,g1],fun t=>put _ t i hp g1 (g2 t)⟩
end
def orderedB (P:Program) (ops:Array Oper):Bool :=
 staticB ops && (let pl:=clo ops.toList []
  below ops.size fun i=>below ops.size fun k=>match ops[i]?,ops[k]? with
   | some x,some y=>if loud P y then (if loud P x then !decide (k < i) || (pl.getD i []).contains k else freeO x || (pl.getD i []).contains k || (pl.getD k []).contains i) else true
   | _,_=>true)
theorem draw_ordered {P:Program} {ops:Array Oper} (hob:orderedB P ops=true) {a:AA} {h:AH} {Q:AA→AH→Prop} (hh:wpX P ops ops.toList a h Q) {id:Nat} {ro:Option Nat} {D:List Deferred} {E:Ren} {w:World} {x:Act}
  {W:Exit→Act→World→Prop} (r:RW P E h w) (rt:RT E a x.tmps) (hdf:x.defers=D)
  (hQ:∀ a₂ h₂ E' w' y,Q a₂ h₂→a₂.rnd=a.rnd→RW P E' h₂ w'→Ext E w E' w'→RT E' a₂ y.tmps→y.defers=D→W .normal y w'):(Code.region id ops true).wpR ro P W x w:=by
 obtain ⟨rs,a₂,h₂,ht,hq⟩:=wpX_run hh
 have hrnd:=ht.rnd
 obtain ⟨q1,q2,q3,q4,q5,q6⟩:=ht.get
 obtain ⟨vals,hn₂,hv₂⟩:=ht.vals
 have q1':rs.length=ops.size:=by rw [q1];simp
 unfold orderedB at hob
 rw [Bool.and_eq_true] at hob
 obtain ⟨hst,hord⟩:=hob
 unfold staticB at hst
 simp only [Bool.and_eq_true] at hst
 obtain ⟨hback,hst⟩:=hst
 have hops:∀ (i:Nat) y,rs[i]?=some y→ops[i]?=some y.o∧i < ops.size:=by
  intro i y hy
  refine ⟨?_,by have:=(List.getElem?_eq_some_iff.1 hy).1;omega⟩
  have:=(q2 i y hy).1
  simpa using this
 -- the trace,with just what is read known ahead of each operation
 let rs':List Rec:=rs.map fun r=>{ r with a:=r.a.keep (readsOf ops r.o) }
 have hrs':∀ (i:Nat) y,rs'[i]?=some y→∃ r,rs[i]?=some r∧y = { r with a:=r.a.keep (readsOf ops r.o) }:=by
  intro i y hy
  simp only [rs',List.getElem?_map,Option.map_eq_some_iff] at hy
  obtain ⟨r,h1,h2⟩:=hy
  exact ⟨r,h1,h2.symm⟩
 have keepGet:∀ (r:Rec),∀ t ∈ readsOf ops r.o,(r.a.keep (readsOf ops r.o)).get t=r.a.get t:=fun r t ht=>AA.keep_mem r.a (readsOf ops r.o) t ht
 have valT':∀ t q,valT rs' a t q=valT rs a t q:=by
  intro t q
  unfold valT
  cases q with
  | none=>rfl
  | some k =>
   simp only [rs',List.getElem?_map]
   cases rs[k]? <;> rfl
 have wr':∀ t,writesAt rs' a.n t=writesAt rs a.n t:=by
  intro t;funext k
  unfold writesAt
  simp only [rs',List.getElem?_map]
  cases rs[k]? <;> rfl
 have ld':loudAt rs' = loudAt rs:=by
  funext k
  unfold loudAt
  simp only [rs',List.getElem?_map]
  cases rs[k]? <;> rfl
 have loudS:∀ i,loudAt rs i=true→∃ y,ops[i]?=some y∧loud P y=true∧i < ops.size:=by
  intro i hi
  unfold loudAt at hi
  split at hi
  ·rename_i y hy
   obtain ⟨o1,l1⟩:=hops i y hy
   exact ⟨y.o,o1,(q2 i y hy).2.loud hi,l1⟩
  ·cases hi
 have htr:TraceW P ops rs' a h h₂:=by
  refine ⟨by simp [rs',q1'],fun i y hy=>?_,fun y hy=>?_,fun i y z hy hz=>?_,⟨fun e=>?_,fun y hy=>?_⟩,fun i y hy=>?_,fun i y hy=>?_,fun i y hy hq=>?_⟩
  ·obtain ⟨r,h1,rfl⟩:=hrs' i y hy;exact (hops i r h1).1
  ·obtain ⟨r,h1,rfl⟩:=hrs' 0 y hy;exact (q3 r h1).2
  ·obtain ⟨r,h1,rfl⟩:=hrs' i y hy
   obtain ⟨s,h2,rfl⟩:=hrs' (i + 1) z hz
   exact (q4 i r s h1 h2).2
  ·have:rs=[]:=by
    have:=congrArg List.length e
    simp [rs'] at this
    exact this
   exact (q5 this).2
  ·have e:rs'.length=rs.length:=by simp [rs']
   rw [e] at hy
   obtain ⟨r,h1,rfl⟩:=hrs' _ y hy
   exact (q6 r h1).2
  ·obtain ⟨r,h1,rfl⟩:=hrs' i y hy
   refine ⟨by rw [AA.keep_n];exact (vals i r h1).1,fun t v hv=>?_⟩
   have hm:=AA.keep_only r.a (readsOf ops r.o) t v hv
   refine ⟨?_,hm⟩
   rw [wr',valT',← (vals i r h1).2 t]
   exact AA.keep_get r.a _ t v hv
  ·obtain ⟨r,h1,rfl⟩:=hrs' i y hy
   exact (q2 i r h1).2.step _ (AA.keep_n _ _) (keepGet r)
  ·obtain ⟨r,h1,rfl⟩:=hrs' i y hy
   exact (q2 i r h1).2.quiet hq
 have how:OrderedW P ops rs' a.n h fun i=>(clo ops.toList []).getD i []:=by
  refine ⟨fun m i l hg j hj=>clo_ahead ops.toList [] (by simp) (by simp) (fun i j hj=>by simp at hj) i j hj m l hg,fun i k x y d hx hy hne hd hlt hr=>?_,fun i k hi hk hki=>?_,?_⟩
  ·obtain ⟨x',hx',rfl⟩:=hrs' i x hx
   obtain ⟨y',hy',rfl⟩:=hrs' k y hy
   obtain ⟨o1,l1⟩:=hops i x' hx'
   obtain ⟨o2,l2⟩:=hops k y' hy'
   have t1:=below_at (below_at hst l1) l2
   simp only [o1,o2,Bool.or_eq_true,beq_iff_eq,hne,false_or] at t1
   rw [show y'.o.dst=some d from hd] at t1
   simp only at t1
   rw [if_pos (by simpa using hr)] at t1
   refine ⟨fun hk=>?_,fun hk=>?_⟩
   ·rw [if_pos hk] at t1;simpa using t1
   ·rw [if_neg (by omega)] at t1;simpa using t1
  ·rw [ld'] at hi hk
   obtain ⟨x,o1,s1,l1⟩:=loudS i hi
   obtain ⟨y,o2,s2,l2⟩:=loudS k hk
   have:=below_at (below_at hord l1) l2
   simp only [o1,o2,s1,s2,if_true,Bool.or_eq_true,Bool.not_eq_true',decide_eq_false_iff_not] at this
   rcases this with h | h
   ·exact absurd hki h
   ·simpa using h
  ·intro i y hy hq q hql hf1 hf2
   obtain ⟨r,h1,rfl⟩:=hrs' i y hy
   have hs:=(q2 i r h1).2
   obtain ⟨o1,l1⟩:=hops i r h1
   by_cases hfr:freeO r.o=true
   ·exact hs.free hfr _ _ (AA.keep_n _ _) (keepGet r)
   ·
    have hh:=htr.heap i _ hy
    have hst2:=htr.step i _ hy
    have hqt:=htr.quiet i _ hy hq
    simp only at hqt hst2 hh
    rw [hqt] at hst2
    rw [hh] at hst2
    have heq:q=lastB (loudAt rs') i ∨ heapT rs' h q=heapT rs' h (lastB (loudAt rs') i):=by
     left
     have hrel:∀ k,loudAt rs' k=true→k ≠ i→k ∈ (clo ops.toList []).getD i [] ∨ i ∈ (clo ops.toList []).getD k []:=by
      intro k hk hne
      rw [ld'] at hk
      obtain ⟨y,o2,s2,l2⟩:=loudS k hk
      have:=below_at (below_at hord l1) l2
      simp only [o1,o2,s2,if_true] at this
      by_cases hlx:loud P r.o=true
      ·rw [if_pos hlx] at this
       -- a loud operation that stayed quiet (it was not wanted): in order with the others all the same
       have t2:=below_at (below_at hord l2) l1
       simp only [o1,o2,s2,hlx,if_true,Bool.or_eq_true,Bool.not_eq_true',decide_eq_false_iff_not] at this t2
       rcases Nat.lt_or_gt_of_ne hne with h | h
       ·rcases this with h' | h'
        ·exact absurd h h'
        ·left;simpa using h'
       ·rcases t2 with h' | h'
        ·exact absurd h h'
        ·right;simpa using h'
      ·rw [if_neg hlx] at this
       simp only [hfr,Bool.false_or,Bool.or_eq_true] at this
       rcases this with h | h
       ·left;simpa using h
       ·right;simpa using h
     have hlt:∀ k,k ∈ (clo ops.toList []).getD i []→k < i:=fun k hk=>clo_lt hback i k hk
     have hlt2:∀ k,i ∈ (clo ops.toList []).getD k []→i < k:=fun k hk=>clo_lt hback k i hk
     cases hb:lastB (loudAt rs') i with
     | none =>
      cases q with
      | none=>rfl
      | some l =>
       exfalso
       have hl:=hql l rfl
       have hne:l ≠ i:=by
        rintro rfl
        unfold loudAt at hl
        rw [hy] at hl
        simp only at hl
        rw [hq] at hl;cases hl
       rcases hrel l hl hne with h | h
       ·have:=lastB_none hb l (hlt l h)
        rw [hl] at this;cases this
       ·exact hf2 l hl ⟨l,rfl,Nat.le_refl _⟩ h
     | some m =>
      obtain ⟨m1,m2,m3⟩:=lastB_some hb
      have hmi:m ∈ (clo ops.toList []).getD i []:=by
       rcases hrel m m2 (by omega) with h | h
       ·exact h
       ·have:=hlt2 m h;omega
      obtain ⟨l,rfl,hle⟩:=hf1 m hmi m2
      have hl:=hql l rfl
      have hne:l ≠ i:=by
       rintro rfl
       unfold loudAt at hl
       rw [hy] at hl
       simp only at hl
       rw [hq] at hl;cases hl
      rcases hrel l hl hne with h | h
      ·have:=m3 l (hlt l h) hl
       have:l=m:=by omega
       rw [this]
      ·exact absurd h (hf2 l hl ⟨l,rfl,Nat.le_refl _⟩)
    rcases heq with e | e
    ·rw [e];exact hst2
    ·rw [e];exact hst2
 refine wpR_region_draw fun t=>?_
 obtain ⟨m,l,e,hg,hl⟩:=schedule_good (mixed:=P.follows .mixedOrders) hback t
 rw [e]
 have rd:RW P E h { w with drawn:=w.drawn + 1 }:=r.of_heap rfl
 exact draw_wpW htr how hn₂ (fun t v hv=>by rw [wr',valT',← hv₂ t];exact hv) rd rt hdf (fun E' w' y p1 p2 p3 p4=>hQ a₂ h₂ E' w' y hq hrnd p1 (p2.of_heap rfl rfl rfl rfl (Nat.le_succ _)) p3 p4) hg hl
end Go.Ab
end
section
namespace Go.Ab
def qcall (o:Oper):Bool:=match o.op with
 | .call c=>match c.callee with
  | .builtin _=>false
  | _=>true
 | _=>false
def loudZ (P:Program) (o:Oper):Bool:=loud P o && !qcall o
def wpZ1 (P:Program) (ops:Array Oper) (o:Oper) (a:AA) (h:AH) (k:Value→AH→Prop):Prop :=
 if qcall o then wpG P ops o a h fun v g=>g=h∧k v h else wpG P ops o a h k
def wpZ (P:Program) (ops:Array Oper):List Oper→AA→AH→List Rec→(List Rec→AA→AH→Prop)→Prop
 | [],a,h,rs,K=>K rs a h
 | o::l,a,h,rs,K=>wpZ1 P ops o a h fun v h'=>wpZ P ops l (a.put o.dst v) h' (rs++[⟨o,a,h,v,loudZ P o,h'⟩]) K
structure SZ (P:Program) (ops:Array Oper) (o:Oper) (a:AA) (h:AH) (v:Value) (q:Bool) (h':AH):Prop where
 loud:q=loudZ P o
 quiet:q=false→h' = h
 step:∀ b:AA,b.n=a.n→(∀ t ∈ readsOf ops o,b.get t=a.get t)→StepW P ops o b h v h'
 free:freeO o=true→∀ (g:AH) (b:AA),b.n=a.n→(∀ t ∈ readsOf ops o,b.get t=a.get t)→StepW P ops o b g v g
theorem stepZ {P:Program} {ops:Array Oper} {o:Oper} {a:AA} {h:AH} {k:Value→AH→Prop} (hh:wpZ1 P ops o a h k):∃ v h',SZ P ops o a h v (loudZ P o) h'∧k v h':=by
 unfold wpZ1 at hh
 split at hh
 ·rename_i hq
  obtain ⟨v,q,h',s,e,hk⟩:=stepG hh
  subst e
  exact ⟨v,h',⟨rfl,fun _=>rfl,s.step,s.free⟩,hk⟩
 ·rename_i hq
  obtain ⟨v,q,h',s,hk⟩:=stepG hh
  refine ⟨v,h',⟨rfl,fun e=>?_,s.step,s.free⟩,hk⟩
  cases q with
  | false=>exact s.quiet rfl
  | true =>
   have:=s.loud rfl
   unfold loudZ at e
   rw [this] at e
   simp only [Bool.true_and,Bool.not_eq_false'] at e
   exact absurd e hq
theorem any_of {α:Type} {p:α→Bool} {o:Option α} (h:o.any p=true):∃ x,o=some x∧p x=true:=by
 cases o with
 | none=>cases h
 | some x=>exact ⟨x,rfl,h⟩
inductive RunZ (P:Program) (ops:Array Oper):List Oper→AA→AH→List Rec→AA→AH→Prop
 | nil (a:AA) (h:AH):RunZ P ops [] a h [] a h
 | cons {o:Oper} {l:List Oper} {a a₂:AA} {h h' h₂:AH} {v:Value} {q:Bool} {rs:List Rec} (s:SZ P ops o a h v q h') (t:RunZ P ops l (a.put o.dst v) h' rs a₂ h₂) :
   RunZ P ops (o::l) a h (⟨o,a,h,v,q,h'⟩::rs) a₂ h₂
theorem wpZ_run {P:Program} {ops:Array Oper} {K:List Rec→AA→AH→Prop}:∀ {l:List Oper} {a:AA} {h:AH} {rs:List Rec},wpZ P ops l a h rs K→∃ rs' a₂ h₂,RunZ P ops l a h rs' a₂ h₂∧K (rs++rs') a₂ h₂:=by
 intro l
 induction l with
 | nil=>intro a h rs hh;exact ⟨[],a,h,.nil a h,by rw [List.append_nil];exact hh⟩
 | cons o l ih =>
  intro a h rs hh
  obtain ⟨v,h',s,hh⟩:=stepZ hh
  obtain ⟨rs',a₂,h₂,t,hq⟩:=ih hh
  exact ⟨_,a₂,h₂,.cons s t,by simpa using hq⟩
section
variable {P:Program} {ops:Array Oper}
theorem RunZ.get {l:List Oper} {a a₂:AA} {h h₂:AH} {rs:List Rec} (ht:RunZ P ops l a h rs a₂ h₂) :
  rs.length=l.length∧(∀ (i:Nat) r,rs[i]?=some r→l[i]?=some r.o∧SZ P ops r.o r.a r.h r.v r.q r.h') ∧
  (∀ r,rs[0]?=some r→r.a=a∧r.h=h)∧(∀ (i:Nat) r q,rs[i]?=some r→rs[i + 1]?=some q→q.a=r.a.put r.o.dst r.v∧q.h=r.h') ∧
  (rs=[]→a₂=a∧h₂=h)∧(∀ r,rs[rs.length - 1]?=some r→a₂=r.a.put r.o.dst r.v∧h₂=r.h'):=by
 induction ht with
 | nil a h=>simp
 | @cons o l a a₂ h h' h₂ v q rs s t ih =>
  obtain ⟨q1,q2,q3,q4,q5,q6⟩:=ih
  refine ⟨by simp [q1],fun i r hr=>?_,fun r hr=>?_,fun i r q hr hq=>?_,(fun e=>by cases e),fun r hr=>?_⟩
  ·cases i with
   | zero=>simp at hr;subst hr;exact ⟨rfl,s⟩
   | succ i=>simpa using q2 i r (by simpa using hr)
  ·simp at hr;subst hr;exact ⟨rfl,rfl⟩
  ·cases i with
   | zero =>
    simp at hr hq;subst hr
    obtain ⟨g1,g2⟩:=q3 q (by simpa using hq)
    exact ⟨g1,g2⟩
   | succ i=>exact q4 i r q (by simpa using hr) (by simpa using hq)
  ·cases hrs:rs with
   | nil =>
    subst hrs
    simp at hr;subst hr
    exact q5 rfl
   | cons r0 rs0 =>
    refine q6 r ?_
    rw [hrs] at hr ⊢
    simpa using hr
theorem RunZ.rnd {l:List Oper} {a a₂:AA} {h h₂:AH} {rs:List Rec} (ht:RunZ P ops l a h rs a₂ h₂):a₂.rnd=a.rnd:=by
 induction ht with
 | nil a h=>rfl
 | cons s t ih=>rw [ih,AA.put_rnd]
theorem RunZ.vals {a a₂:AA} {h h₂:AH} {rs:List Rec} (ht:RunZ P ops ops.toList a h rs a₂ h₂):(∀ (i:Nat) r,rs[i]?=some r→r.a.n=a.n∧∀ t,r.a.get t=valT rs a t (lastB (writesAt rs a.n t) i)) ∧
  a₂.n=a.n∧∀ t,a₂.get t=valT rs a t (lastB (writesAt rs a.n t) ops.size):=by
 obtain ⟨q1,q2,q3,q4,q5,q6⟩:=ht.get
 have put:∀ (r:Rec) (t i:Nat),rs[i]?=some r→r.a.n=a.n→r.a.get t=valT rs a t (lastB (writesAt rs a.n t) i)→(r.a.put r.o.dst r.v).get t=valT rs a t (lastB (writesAt rs a.n t) (i + 1)):=by
  intro r t i hp g1 g2
  simp only [lastB,writesAt,hp]
  cases hd:r.o.dst with
  | none=>simp only [AA.put];rw [g2];rfl
  | some d =>
   rw [AA.get_put,g1]
   by_cases hdt:d=t∧d < a.n
   ·obtain ⟨rfl,hdn⟩:=hdt
    simp [hdn,valT,hp]
   ·rw [if_neg hdt,g2]
    have:(some d == some t && decide (t < a.n))=false:=by
     rw [Bool.and_eq_false_iff]
     by_cases e:d=t
     ·subst e;right;simpa using fun h=>hdt ⟨rfl,h⟩
     ·left;simpa using e
    rw [this]
    rfl
 have key:∀ (i:Nat) r,rs[i]?=some r→r.a.n=a.n∧∀ t,r.a.get t=valT rs a t (lastB (writesAt rs a.n t) i):=by
  intro i
  induction i with
  | zero=>intro r hr;rw [(q3 r hr).1];exact ⟨rfl,fun t=>rfl⟩
  | succ i ih =>
   intro r hr
   have hlt:i < rs.length:=by have:=(List.getElem?_eq_some_iff.1 hr).1;omega
   have hp:rs[i]?=some rs[i]:=List.getElem?_eq_getElem hlt
   obtain ⟨g1,g2⟩:=ih rs[i] hp
   rw [(q4 i rs[i] r hp hr).1]
   exact ⟨by rw [put_n,g1],fun t=>put _ t i hp g1 (g2 t)⟩
 refine ⟨key,?_⟩
 have q1':rs.length=ops.size:=by rw [q1];simp
 cases hn:ops.size with
 | zero =>
  have:rs=[]:=List.eq_nil_of_length_eq_zero (by omega)
  rw [(q5 this).1]
  exact ⟨rfl,fun t=>rfl⟩
 | succ i =>
  have hlt:i < rs.length:=by omega
  have hp:rs[i]?=some rs[i]:=List.getElem?_eq_getElem hlt
  obtain ⟨g1,g2⟩:=key i rs[i] hp
  rw [(q6 rs[i] (by rw [q1',hn];exact hp)).1]
  exact ⟨by rw [put_n,g1],fun t=>put _ t i hp g1 (g2 t)⟩
end
def feasZ (P:Program) (ops:Array Oper) (pl:List (List Nat)) (i:Nat) (q:Option Nat):Bool :=
 ((pl.getD i []).all fun p=>!((ops[p]?).any (loudZ P)) || (match q with | some l=>decide (p ≤ l) | none=>false)) &&
 (match q with | some l=>below (l + 1) fun l'=>!((ops[l']?).any (loudZ P)) || !(pl.getD l' []).contains i | none=>true)
def pairsZ (P:Program) (ops:Array Oper):List (Nat × Option Nat) :=
 let pl:=clo ops.toList []
 (List.range ops.size).flatMap fun i=>match ops[i]? with
  | some o=>if loudZ P o || freeO o then [] else
   (none::((List.range ops.size).filter fun k=>(ops[k]?).any (loudZ P)).map some).filterMap fun q =>
    if feasZ P ops pl i q && !(q == lastB (fun k=>(ops[k]?).any (loudZ P)) i) then some (i,q) else none
  | none=>[]
def obligZ (P:Program) (ops:Array Oper) (rs:List Rec) (h:AH):List (Nat × Option Nat)→Prop
 | []=>True
 | (i,q)::l=>(match rs[i]? with
  | some r=>wpZ1 P ops r.o r.a (heapT rs h q) fun v g=>v=r.v∧g=heapT rs h q
  | none=>False)∧obligZ P ops rs h l
theorem obligZ_mem {P:Program} {ops:Array Oper} {rs:List Rec} {h:AH}:∀ {l:List (Nat × Option Nat)},obligZ P ops rs h l→∀ {i q r},(i,q) ∈ l→rs[i]?=some r→wpZ1 P ops r.o r.a (heapT rs h q) fun v g=>v=r.v∧g=heapT rs h q:=by
 intro l
 induction l with
 | nil=>intro _ i q r hm;cases hm
 | cons x l ih =>
  intro ho i q r hm hr
  obtain ⟨j,p⟩:=x
  obtain ⟨h1,h2⟩:=ho
  rcases List.mem_cons.1 hm with e | hm
  ·cases e
   rw [hr] at h1
   exact h1
  ·exact ih h2 hm hr
def orderedZ (P:Program) (ops:Array Oper):Bool :=
 staticB ops && (let pl:=clo ops.toList []
  below ops.size fun i=>below ops.size fun k=>match ops[i]?,ops[k]? with
   | some x,some y=>!(loudZ P x && loudZ P y && decide (k < i)) || (pl.getD i []).contains k
   | _,_=>true)
theorem draw_Z {P:Program} {ops:Array Oper} (hob:orderedZ P ops=true) {a:AA} {h:AH} {Q:AA→AH→Prop} (hh:wpZ P ops ops.toList a h [] fun rs a₂ h₂=>obligZ P ops rs h (pairsZ P ops)∧Q a₂ h₂)
  {id:Nat} {ro:Option Nat} {D:List Deferred} {E:Ren} {w:World} {x:Act}
  {W:Exit→Act→World→Prop} (r:RW P E h w) (rt:RT E a x.tmps) (hdf:x.defers=D)
  (hQ:∀ a₂ h₂ E' w' y,Q a₂ h₂→a₂.rnd=a.rnd→RW P E' h₂ w'→Ext E w E' w'→RT E' a₂ y.tmps→y.defers=D→W .normal y w'):(Code.region id ops true).wpR ro P W x w:=by
 obtain ⟨rs,a₂,h₂,ht,hob2,hq⟩:=wpZ_run hh
 rw [List.nil_append] at hob2
 have hrnd:=ht.rnd
 obtain ⟨q1,q2,q3,q4,q5,q6⟩:=ht.get
 obtain ⟨vals,hn₂,hv₂⟩:=ht.vals
 have q1':rs.length=ops.size:=by rw [q1];simp
 unfold orderedZ at hob
 rw [Bool.and_eq_true] at hob
 obtain ⟨hst,hord⟩:=hob
 unfold staticB at hst
 simp only [Bool.and_eq_true] at hst
 obtain ⟨hback,hst⟩:=hst
 have hops:∀ (i:Nat) y,rs[i]?=some y→ops[i]?=some y.o∧i < ops.size:=by
  intro i y hy
  refine ⟨?_,by have:=(List.getElem?_eq_some_iff.1 hy).1;omega⟩
  have:=(q2 i y hy).1
  simpa using this
 let rs':List Rec:=rs.map fun r=>{ r with a:=r.a.keep (readsOf ops r.o) }
 have hrs':∀ (i:Nat) y,rs'[i]?=some y→∃ r,rs[i]?=some r∧y = { r with a:=r.a.keep (readsOf ops r.o) }:=by
  intro i y hy
  simp only [rs',List.getElem?_map,Option.map_eq_some_iff] at hy
  obtain ⟨r,h1,h2⟩:=hy
  exact ⟨r,h1,h2.symm⟩
 have keepGet:∀ (r:Rec),∀ t ∈ readsOf ops r.o,(r.a.keep (readsOf ops r.o)).get t=r.a.get t:=fun r t ht=>AA.keep_mem r.a (readsOf ops r.o) t ht
 have valT':∀ t q,valT rs' a t q=valT rs a t q:=by
  intro t q
  unfold valT
  cases q with
  | none=>rfl
  | some k =>
   simp only [rs',List.getElem?_map]
   cases rs[k]? <;> rfl
 have wr':∀ t,writesAt rs' a.n t=writesAt rs a.n t:=by
  intro t;funext k
  unfold writesAt
  simp only [rs',List.getElem?_map]
  cases rs[k]? <;> rfl
 have ld':loudAt rs' = loudAt rs:=by
  funext k
  unfold loudAt
  simp only [rs',List.getElem?_map]
  cases rs[k]? <;> rfl
 have hp':∀ q,heapT rs' h q=heapT rs h q:=by
  intro q
  unfold heapT
  cases q with
  | none=>rfl
  | some k =>
   simp only [rs',List.getElem?_map]
   cases rs[k]? <;> rfl
 have lz:∀ k,loudAt rs k=(ops[k]?).any (loudZ P):=by
  intro k
  unfold loudAt
  cases hk:rs[k]? with
  | some y =>
   obtain ⟨o1,_⟩:=hops k y hk
   rw [o1]
   simp only [Option.any_some]
   exact (q2 k y hk).2.loud
  | none =>
   have:ops.size ≤ k:=by rw [← q1'];exact List.getElem?_eq_none_iff.1 hk
   rw [Array.getElem?_eq_none this]
   rfl
 have htr:TraceW P ops rs' a h h₂:=by
  refine ⟨by simp [rs',q1'],fun i y hy=>?_,fun y hy=>?_,fun i y z hy hz=>?_,⟨fun e=>?_,fun y hy=>?_⟩,fun i y hy=>?_,fun i y hy=>?_,fun i y hy hq=>?_⟩
  ·obtain ⟨r,h1,rfl⟩:=hrs' i y hy;exact (hops i r h1).1
  ·obtain ⟨r,h1,rfl⟩:=hrs' 0 y hy;exact (q3 r h1).2
  ·obtain ⟨r,h1,rfl⟩:=hrs' i y hy
   obtain ⟨s,h2,rfl⟩:=hrs' (i + 1) z hz
   exact (q4 i r s h1 h2).2
  ·have:rs=[]:=by
    have:=congrArg List.length e
    simp [rs'] at this
    exact this
   exact (q5 this).2
  ·have e:rs'.length=rs.length:=by simp [rs']
   rw [e] at hy
   obtain ⟨r,h1,rfl⟩:=hrs' _ y hy
   exact (q6 r h1).2
  ·obtain ⟨r,h1,rfl⟩:=hrs' i y hy
   refine ⟨by rw [AA.keep_n];exact (vals i r h1).1,fun t v hv=>?_⟩
   have hm:=AA.keep_only r.a (readsOf ops r.o) t v hv
   refine ⟨?_,hm⟩
   rw [wr',valT',← (vals i r h1).2 t]
   exact AA.keep_get r.a _ t v hv
  ·obtain ⟨r,h1,rfl⟩:=hrs' i y hy
   exact (q2 i r h1).2.step _ (AA.keep_n _ _) (keepGet r)
  ·obtain ⟨r,h1,rfl⟩:=hrs' i y hy
   exact (q2 i r h1).2.quiet hq
 have how:OrderedW P ops rs' a.n h fun i=>(clo ops.toList []).getD i []:=by
  refine ⟨fun m i l hg j hj=>clo_ahead ops.toList [] (by simp) (by simp) (fun i j hj=>by simp at hj) i j hj m l hg,fun i k x y d hx hy hne hd hlt hr=>?_,fun i k hi hk hki=>?_,?_⟩
  ·obtain ⟨x',hx',rfl⟩:=hrs' i x hx
   obtain ⟨y',hy',rfl⟩:=hrs' k y hy
   obtain ⟨o1,l1⟩:=hops i x' hx'
   obtain ⟨o2,l2⟩:=hops k y' hy'
   have t1:=below_at (below_at hst l1) l2
   simp only [o1,o2,Bool.or_eq_true,beq_iff_eq,hne,false_or] at t1
   rw [show y'.o.dst=some d from hd] at t1
   simp only at t1
   rw [if_pos (by simpa using hr)] at t1
   refine ⟨fun hk=>?_,fun hk=>?_⟩
   ·rw [if_pos hk] at t1;simpa using t1
   ·rw [if_neg (by omega)] at t1;simpa using t1
  ·rw [ld',lz] at hi hk
   obtain ⟨x,o1,s1⟩:=any_of hi
   obtain ⟨y,o2,s2⟩:=any_of hk
   have l1:=(Array.getElem?_eq_some_iff.1 o1).1
   have l2:=(Array.getElem?_eq_some_iff.1 o2).1
   have:=below_at (below_at hord l1) l2
   simp only [o1,o2,s1,s2,hki,Bool.true_and,decide_true,Bool.not_true,Bool.false_or] at this
   simpa using this
  ·intro i y hy hq q hql hf1 hf2
   obtain ⟨r,h1,rfl⟩:=hrs' i y hy
   have hs:=(q2 i r h1).2
   obtain ⟨o1,l1⟩:=hops i r h1
   by_cases hfr:freeO r.o=true
   ·exact hs.free hfr _ _ (AA.keep_n _ _) (keepGet r)
   ·by_cases he:q=lastB (loudAt rs') i
    ·have hh:=htr.heap i _ hy
     have hst2:=htr.step i _ hy
     have hqt:=htr.quiet i _ hy hq
     simp only at hqt hst2 hh
     rw [hqt,hh] at hst2
     rw [he]
     exact hst2
    ·have hmem:(i,q) ∈ pairsZ P ops:=by
      unfold pairsZ
      simp only [List.mem_flatMap,List.mem_range]
      refine ⟨i,l1,?_⟩
      rw [o1]
      simp only
      have hl:loudZ P r.o=false:=by rw [← hs.loud];exact hq
      rw [if_neg (by simp [hl,hfr])]
      rw [List.mem_filterMap]
      refine ⟨q,?_,?_⟩
      ·cases q with
       | none=>simp
       | some l =>
        have hll:=hql l rfl
        rw [ld',lz] at hll
        obtain ⟨z,o2,s2⟩:=any_of hll
        have l2:=(Array.getElem?_eq_some_iff.1 o2).1
        simp only [List.mem_cons,List.mem_map,List.mem_filter,List.mem_range]
        exact .inr ⟨l,⟨l2,hll⟩,rfl⟩
      ·rw [if_pos]
       rw [Bool.and_eq_true]
       constructor
       ·unfold feasZ
        simp only [Bool.and_eq_true,List.all_eq_true,Bool.or_eq_true,Bool.not_eq_true']
        refine ⟨fun p hp=>?_,?_⟩
        ·cases hlp:(ops[p]?).any (loudZ P) with
         | false=>exact .inl rfl
         | true =>
          right
          obtain ⟨l,rfl,hle⟩:=hf1 p hp (by rw [ld',lz];exact hlp)
          simpa using hle
        ·cases q with
         | none=>rfl
         | some l =>
          simp only [below,List.all_eq_true,List.mem_range,Bool.or_eq_true,Bool.not_eq_true']
          intro l' hl'
          cases hlp:(ops[l']?).any (loudZ P) with
          | false=>exact .inl rfl
          | true =>
           right
           have:=hf2 l' (by rw [ld',lz];exact hlp) ⟨l,rfl,by omega⟩
           simpa using this
       ·simp only [Bool.not_eq_true',beq_eq_false_iff_ne,ne_eq]
        intro e
        apply he
        rw [e]
        congr 1
        funext k
        rw [ld',lz]
     have hob3:=obligZ_mem hob2 hmem h1
     obtain ⟨v,g,s2,e1,e2⟩:=stepZ hob3
     subst e1 e2
     rw [hp']
     exact s2.step _ (AA.keep_n _ _) (keepGet r)
 refine wpR_region_draw fun t=>?_
 obtain ⟨m,l,e,hg,hl⟩:=schedule_good (mixed:=P.follows .mixedOrders) hback t
 rw [e]
 have rd:RW P E h { w with drawn:=w.drawn + 1 }:=r.of_heap rfl
 exact draw_wpW htr how hn₂ (fun t v hv=>by rw [wr',valT',← hv₂ t];exact hv) rd rt hdf (fun E' w' y p1 p2 p3 p4=>hQ a₂ h₂ E' w' y hq hrnd p1 (p2.of_heap rfl rfl rfl rfl (Nat.le_succ _)) p3 p4) hg hl
end Go.Ab
end
