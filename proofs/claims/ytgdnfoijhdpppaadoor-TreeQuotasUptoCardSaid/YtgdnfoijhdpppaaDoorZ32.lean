import Derived.Test.YtgdnfoijhdpppaaDoorZ17
set_option linter.unusedVariables false
set_option linter.unusedSimpArgs false
section
namespace Go.Ab
abbrev Outs:=List (HX × AA × AH)
def goO (k:HX→AA→AH→Option Outs):Outs→Option Outs
 | []=>some []
 | (e,a,h)::l=>match k e a h,goO k l with
  | some x,some y=>some (x++y)
  | _,_=>none
def bindO (o:Option Outs) (k:HX→AA→AH→Option Outs):Option Outs:=match o with
 | none=>none
 | some l=>goO k l
theorem goO_mem {k:HX→AA→AH→Option Outs}:∀ {l L:Outs},goO k l=some L→∀ e a h,(e,a,h) ∈ l→∃ m,k e a h=some m∧∀ x ∈ m,x ∈ L:=by
 intro l
 induction l with
 | nil=>intro L _ e a h hm;cases hm
 | cons y l ih =>
  intro L hL e a h hm
  obtain ⟨e0,a0,h0⟩:=y
  simp only [goO] at hL
  split at hL
  ·rename_i x y hx hy
   cases hL
   rcases List.mem_cons.1 hm with e1 | hm
   ·cases e1;exact ⟨x,hx,fun z hz=>List.mem_append_left _ hz⟩
   ·obtain ⟨m,h1,h2⟩:=ih hy e a h hm
    exact ⟨m,h1,fun z hz=>List.mem_append_right _ (h2 z hz)⟩
  ·cases hL
theorem goO_back {k:HX→AA→AH→Option Outs}:∀ {l L:Outs},goO k l=some L→∀ x ∈ L,∃ e a h m,(e,a,h) ∈ l∧k e a h=some m∧x ∈ m:=by
 intro l
 induction l with
 | nil=>intro L hL x hx;cases hL;cases hx
 | cons y l ih =>
  intro L hL x hx
  obtain ⟨e0,a0,h0⟩:=y
  simp only [goO] at hL
  split at hL
  ·rename_i u v hu hv
   cases hL
   rcases List.mem_append.1 hx with h1 | h1
   ·exact ⟨e0,a0,h0,u,by simp,hu,h1⟩
   ·obtain ⟨e,a,h,m,g1,g2,g3⟩:=ih hv x h1
    exact ⟨e,a,h,m,List.mem_cons_of_mem _ g1,g2,g3⟩
  ·cases hL
theorem bindO_eq {o:Option Outs} {k:HX→AA→AH→Option Outs} {L:Outs} (h:bindO o k=some L):∃ l,o=some l∧goO k l=some L:=by
 cases o with
 | none=>cases h
 | some l=>exact ⟨l,rfl,h⟩
def nextM (P:Program) (h:AH) (it:Value) (s:Bool):Option (List (Value × AH)):=match it with
 | .pointer (some ⟨r,0,none⟩)=>match h.get r with
  | some (.mapIter (some m) since seen last,so)=>if s then none else match h.get m with
   | some (.map es clock,_)=>if !seen.isEmpty && !es.isEmpty && es.all (·.born ≥ last) then none else
    let un:=es.toList.filter fun e=>!seen.contains e.born
    some ((if un.all fun e=>decide (since ≤ e.born) then [(overV,h)] else [])++un.map fun e=>(.tuple #[.bool true,e.key,e.val],h.put r (some (.mapIter (some m) since (seen.push e.born) clock,so))))
   | _=>none
  | _=>(opNext P h it s).map fun r=>[r]
 | _=>none
theorem nextM_P {P:Program} {h:AH} {it:Value} {s:Bool} {L:List (Value × AH)} {k:Value→AH→Prop} (hh:nextM P h it s=some L) (hk:∀ x ∈ L,k x.1 x.2):nextP P h it s k:=by
 unfold nextM at hh
 unfold nextP
 split at hh
 case h_2=>cases hh
 rename_i r
 simp only
 split at hh
 ·rename_i m since seen last so hg
  simp only [hg]
  split at hh
  ·cases hh
  rename_i hs
  refine ⟨by simpa using hs,?_⟩
  split at hh
  case h_2=>cases hh
  rename_i es clock sm hm
  simp only [hm]
  split at hh
  ·cases hh
  rename_i hc
  cases hh
  refine ⟨by simpa using hc,fun hall=>?_,fun e he hse=>?_⟩
  ·refine hk (overV,h) (List.mem_append_left _ ?_)
   rw [if_pos]
   ·simp
   ·rw [List.all_eq_true]
    intro e he
    rw [List.mem_filter] at he
    simpa using hall e he.1 (by simpa using he.2)
  ·refine hk (_,_) (List.mem_append_right _ (List.mem_map.2 ⟨e,List.mem_filter.2 ⟨he,by rw [hse];rfl⟩,rfl⟩))
 ·rename_i hne
  cases ho:opNext P h (.pointer (some ⟨r,0,none⟩)) s with
  | none=>rw [ho] at hh;cases hh
  | some x =>
   rw [ho] at hh
   cases hh
   have:=hk x (by simp)
   split
   ·rename_i m since seen last so hg;exact absurd hg (hne _ _ _ _ _)
   ·first | exact this | (rw [ho];exact this)
theorem nextM_logs {P:Program} {h:AH} {it:Value} {s:Bool} {L:List (Value × AH)} (hh:nextM P h it s=some L):∀ x ∈ L,Logs h x.2:=by
 unfold nextM at hh
 split at hh
 case h_2=>cases hh
 split at hh
 ·split at hh
  ·cases hh
  split at hh
  case h_2=>cases hh
  split at hh
  ·cases hh
  cases hh
  intro x hx
  rcases List.mem_append.1 hx with h1 | h1
  ·split at h1
   ·rw [List.mem_singleton.1 h1];exact .refl _
   ·cases h1
  ·obtain ⟨e,_,rfl⟩:=List.mem_map.1 h1
   exact .put _ _ _
 ·rename_i hne
  rw [Option.map_eq_some_iff] at hh
  obtain ⟨y,hy,rfl⟩:=hh
  intro x hx
  rw [List.mem_singleton.1 hx]
  exact logs_next hy
def jOf:HX→Option (Option Code)
 | .normal=>some none
 | .ret=>some (some .ret)
 | .exit i=>some (some (.exit i))
 | .goto l=>some (some (.goto l))
 | .panic _=>none
def endM (k:Nat) (e:HX) (h:AH):Option (Value × AH):=match jOf e,loopAt h k with
 | some j,some r=>some (.bool j.isNone,h.put k (some (.loop { r.1 with state:=if j.isNone then .ready else .done,pending:=j },r.2)))
 | _,_=>none
abbrev CodeF:=Code→AA→AH→Option Outs
def mapE (k:Nat):Outs→Option (List (Value × AH))
 | []=>some []
 | (e,_,h)::l=>match endM k e h,mapE k l with
  | some x,some y=>some (x::y)
  | _,_=>none
def goR (code:CodeF) (k:Nat) (body:Code):Outs→Option (List (Value × AH))
 | []=>some []
 | (e,a,h)::l=>match e,loopAt h k,goR code k body l with
  | .normal,some q,some y=>if q.1.state=.ready then match code body a (h.put k (some (.loop { q.1 with state:=.busy },q.2))) with
   | some L=>match mapE k L with
    | some x=>some (x++y)
    | none=>none
   | none=>none
   else none
  | _,_,_=>none
def roundM (code:CodeF) (k:Nat) (args:List Value) (h:AH):Option (List (Value × AH)):=match loopAt h k with
 | some r=>if args.length=r.1.params.size then match code r.1.assign (roundA r.1 k args) h with
  | some L=>goR code k r.1.body L
  | none=>none
  else none
 | none=>none
def CodeH (P:Program) (f:CodeF):Prop:=∀ c a h L,f c a h=some L→HW P c a h fun e a' h'=>(e,a',h') ∈ L
def CodeL (f:CodeF):Prop:=∀ c a h L,f c a h=some L→∀ x ∈ L,Logs h x.2.2
theorem HW.mono {P:Program} {c:Code} {a:AA} {h:AH} {Q R:HX→AA→AH→Prop} (hh:HW P c a h Q) (hr:∀ e a h,Q e a h→R e a h):HW P c a h R :=
 fun B ro E w x r rx=>wpIn_mono (hh B ro E w x r rx) fun e y w' hp=>hp.mono hr
theorem mapE_mem {k:Nat}:∀ {l:Outs} {L:List (Value × AH)},mapE k l=some L→∀ e a h,(e,a,h) ∈ l→∃ x,endM k e h=some x∧x ∈ L:=by
 intro l
 induction l with
 | nil=>intro L _ e a h hm;cases hm
 | cons y l ih =>
  intro L hL e a h hm
  obtain ⟨e0,a0,h0⟩:=y
  simp only [mapE] at hL
  split at hL
  ·rename_i x y hx hy
   cases hL
   rcases List.mem_cons.1 hm with e1 | hm
   ·cases e1;exact ⟨x,hx,by simp⟩
   ·obtain ⟨z,h1,h2⟩:=ih hy e a h hm
    exact ⟨z,h1,List.mem_cons_of_mem _ h2⟩
  ·cases hL
theorem mapE_back {k:Nat}:∀ {l:Outs} {L:List (Value × AH)},mapE k l=some L→∀ x ∈ L,∃ e a h,(e,a,h) ∈ l∧endM k e h=some x:=by
 intro l
 induction l with
 | nil=>intro L hL x hx;cases hL;cases hx
 | cons y l ih =>
  intro L hL x hx
  obtain ⟨e0,a0,h0⟩:=y
  simp only [mapE] at hL
  split at hL
  ·rename_i u v hu hv
   cases hL
   rcases List.mem_cons.1 hx with rfl | h1
   ·exact ⟨e0,a0,h0,by simp,hu⟩
   ·obtain ⟨e,a,h,g1,g2⟩:=ih hv x h1
    exact ⟨e,a,h,List.mem_cons_of_mem _ g1,g2⟩
  ·cases hL
theorem goR_mem {code:CodeF} {k:Nat} {body:Code}:∀ {l:Outs} {L:List (Value × AH)},goR code k body l=some L→∀ e a h,(e,a,h) ∈ l →
  e=.normal∧∃ q M X,loopAt h k=some q∧q.1.state=.ready∧code body a (h.put k (some (.loop { q.1 with state:=.busy },q.2)))=some M∧mapE k M=some X∧∀ x ∈ X,x ∈ L:=by
 intro l
 induction l with
 | nil=>intro L _ e a h hm;cases hm
 | cons y l ih =>
  intro L hL e a h hm
  obtain ⟨e0,a0,h0⟩:=y
  simp only [goR] at hL
  split at hL
  ·rename_i q y hq hy
   split at hL
   case isFalse=>cases hL
   rename_i hs
   split at hL
   case h_2=>cases hL
   rename_i M hM
   split at hL
   case h_2=>cases hL
   rename_i X hX
   cases hL
   rcases List.mem_cons.1 hm with e1 | hm
   ·cases e1;exact ⟨rfl,q,M,X,hq,hs,hM,hX,fun z hz=>List.mem_append_left _ hz⟩
   ·obtain ⟨g0,q',M',X',g1,g2,g3,g4,g5⟩:=ih hy e a h hm
    exact ⟨g0,q',M',X',g1,g2,g3,g4,fun z hz=>List.mem_append_right _ (g5 z hz)⟩
  ·cases hL
theorem goR_back {code:CodeF} {k:Nat} {body:Code}:∀ {l:Outs} {L:List (Value × AH)},goR code k body l=some L→∀ x ∈ L,∃ e a h q M X,(e,a,h) ∈ l∧loopAt h k=some q ∧
  code body a (h.put k (some (.loop { q.1 with state:=.busy },q.2)))=some M∧mapE k M=some X∧x ∈ X:=by
 intro l
 induction l with
 | nil=>intro L hL x hx;cases hL;cases hx
 | cons y l ih =>
  intro L hL x hx
  obtain ⟨e0,a0,h0⟩:=y
  simp only [goR] at hL
  split at hL
  ·rename_i q y hq hy
   split at hL
   case isFalse=>cases hL
   split at hL
   case h_2=>cases hL
   rename_i M hM
   split at hL
   case h_2=>cases hL
   rename_i X hX
   cases hL
   rcases List.mem_append.1 hx with h1 | h1
   ·exact ⟨.normal,a0,h0,q,M,X,by simp,hq,hM,hX,h1⟩
   ·obtain ⟨e,a,h,q',M',X',g1,g2⟩:=ih hy x h1
    exact ⟨e,a,h,q',M',X',List.mem_cons_of_mem _ g1,g2⟩
  ·cases hL
theorem roundM_P {P:Program} {code:CodeF} (hc:CodeH P code) {k:Nat} {args:List Value} {h:AH} {L:List (Value × AH)} {K:Value→AH→Prop} (hh:roundM code k args h=some L) (hk:∀ x ∈ L,K x.1 x.2):roundP P k args h K:=by
 unfold roundM at hh
 split at hh
 case h_2=>cases hh
 rename_i r hr
 split at hh
 case isFalse=>cases hh
 rename_i hl
 split at hh
 case h_2=>cases hh
 rename_i M hM
 unfold roundP
 refine bq_of hr ⟨hl,(hc _ _ _ _ hM).mono fun e a h1 hm=>?_⟩
 obtain ⟨rfl,q,M2,X,g1,g2,g3,g4,g5⟩:=goR_mem hh e a h1 hm
 refine bq_of g1 ⟨g2,(hc _ _ _ _ g3).mono fun e2 a2 h2 hm2=>?_⟩
 obtain ⟨x,e1,hx⟩:=mapE_mem g4 e2 a2 h2 hm2
 have hK:=hk x (g5 x hx)
 unfold endM at e1
 split at e1
 case h_2=>cases e1
 rename_i j q2 hj hq2
 cases e1
 cases e2 with
 | normal=>cases hj;exact bq_of hq2 hK
 | ret=>cases hj;exact bq_of hq2 hK
 | exit i=>cases hj;exact bq_of hq2 hK
 | goto i=>cases hj;exact bq_of hq2 hK
 | panic v=>cases hj
theorem roundM_logs {code:CodeF} (hc:CodeL code) {k:Nat} {args:List Value} {h:AH} {L:List (Value × AH)} (hh:roundM code k args h=some L):∀ x ∈ L,Logs h x.2:=by
 unfold roundM at hh
 split at hh
 case h_2=>cases hh
 rename_i r hr
 split at hh
 case isFalse=>cases hh
 split at hh
 case h_2=>cases hh
 rename_i M hM
 intro x hx
 obtain ⟨e,a,h1,q,M2,X,g1,g2,g3,g4,g5⟩:=goR_back hh x hx
 obtain ⟨e2,a2,h2,g6,g7⟩:=mapE_back g4 x g5
 have l1:=hc _ _ _ _ hM _ g1
 have l2:=hc _ _ _ _ g3 _ g6
 unfold endM at g7
 split at g7
 ·cases g7
  exact l1.trans ((Logs.put _ _ _).trans (l2.trans (.put _ _ _)))
 ·cases g7
abbrev FCall:=FuncId→Array Value→AH→Option (Bool × Value × Bool × AH)
def callOf (full:FCall):CallF:=fun f args h=>match full f args h with
 | some (false,v,q,h')=>some (v,q,h')
 | _=>none
def resOf (p:Bool) (v:Value):Res:=if p then .pan v else .ret v
def FOk (P:Program) (full:FCall):Prop:=∀ f args h p v q h',full f args h=some (p,v,q,h')→(p=false→q=false→h' = h)∧HC P f args h fun r g=>r=resOf p v∧g=h'
def FLogs (full:FCall):Prop:=∀ f args h p v q h',full f args h=some (p,v,q,h')→Logs h h'
theorem callOf_eq {full:FCall} {f:FuncId} {args:Array Value} {h h':AH} {v:Value} {q:Bool} (hh:callOf full f args h=some (v,q,h')):full f args h=some (false,v,q,h'):=by
 unfold callOf at hh
 split at hh
 ·rename_i e;cases hh;exact e
 ·cases hh
theorem FOk.call {P:Program} {full:FCall} (hf:FOk P full):CallOk P (callOf full):=by
 intro f args h v q h' hh
 obtain ⟨h1,h2⟩:=hf f args h _ _ _ _ (callOf_eq hh)
 refine ⟨h1 rfl,fun E w args' r ra=>(h2 E w args' r ra).mono ?_⟩
 rintro e w' ⟨E',res,g,q1,q2,q3,rfl,rfl⟩
 cases e with
 | returned v'=>exact ⟨E',v',rfl,q2,q3,q1⟩
 | _=>cases q1
theorem FLogs.call {full:FCall} (hf:FLogs full):CallLogs (callOf full):=fun f args h v q h' hh=>hf f args h _ _ _ _ (callOf_eq hh)
def opM (P:Program) (call:FCall) (code:CodeF) (a:AA) (o:Oper) (h:AH):Option (List (Bool × Value × AH)) :=
 match o.op with
 | .panic x=>match a.opnd P x with
  | some (.iface t u)=>some [(true,.iface t u,h)]
  | _=>none
 | .next it s=>match a.opnd P it with
  | some v=>(nextM P h v s).map fun l=>l.map fun x=>(false,x.1,x.2)
  | none=>none
 | .call c=>match yieldOf P a c with
  | some (k,args)=>(roundM code k args h).map fun l=>l.map fun x=>(false,x.1,x.2)
  | none=>plainM
 | _=>plainM
 where
 yieldOf (P:Program) (a:AA) (c:Call):Option (Nat × List Value):=match c.callee with
  | .value f=>match a.opnd P f,listOf (a.opnd P) c.args.toList with
   | some (.chan (some k)),some args=>some (k,args)
   | _,_=>none
  | _=>none
 plainM:Option (List (Bool × Value × AH)):=match absOp P (a.opnd P) o h with
  | some (.val v h')=>some [(false,v,h')]
  | some (.unit h')=>some [(false,undef,h')]
  | some (.enter f args h')=>match call f args h' with
   | some (p,v,_,h'')=>some [(p,v,h'')]
   | none=>none
  | none=>none
theorem opM_wp {P:Program} {call:FCall} {code:CodeF} (hcl:FOk P call) (hcd:CodeH P code) {o:Oper} {a:AA} {h:AH} {L:List (Bool × Value × AH)} (hh:opM P call code a o h=some L)
  {B:Nat} {ro:Option Nat} {E:Ren} {w:World} {x:Act} {K:Act→World→Prop} {W:Exit→Act→World→Prop} (r:RW P E h w) (rx:RX B ro E w a x)
  (hk:∀ v h' E' w' z,(false,v,h') ∈ L→RW P E' h' w'→Ext E w E' w'→RX B ro E' w' (a.put o.dst v) z→K z w')
  (hp:∀ v v' h' E' w',(true,v,h') ∈ L→RW P E' h' w'→Ext E w E' w'→RV E' v v'→W (.panic [{ v:=v',recovered:=false }]) x w'):o.wpR ro P x w K W:=by
 have hput:∀ (d:Option Tmp) (v:Value),(x.put d v).defers=x.defers:=fun d v=>by cases d <;> rfl
 have hnext:∀ {E':Ren} {w':World} {v v':Value},Ext E w E' w'→RV E' v v'→RX B ro E' w' (a.put o.dst v) (x.put o.dst v'):=fun xe rv =>
  rx.next xe ((rx.rt.mono xe.le).put o.dst rv) (hput _ _) (AA.put_rnd _ _ _)
 have plain:opM.plainM P call a o h=some L→o.wpR ro P x w K W:=by
  intro hh
  unfold opM.plainM at hh
  split at hh
  ·rename_i v h' hop
   cases hh
   obtain ⟨E',v',w',h1,h2,h3,h4⟩:=absOp_ok r (rx.rt.opnd r) hop
   exact wpR_value (abs_nodefer hop) h1 (hk v h' E' w' _ (by simp) h2 h3 (hnext h3 h4))
  ·rename_i h' hop
   cases hh
   obtain ⟨E',w',h1,h2,h3⟩:=absOp_ok r (rx.rt.opnd r) hop
   exact wpR_skip (abs_nodefer hop) h1 (hk undef h' E' w' _ (by simp) h2 h3 (hnext h3 rv_undef))
  ·rename_i f args h' hop
   split at hh
   case h_2=>cases hh
   rename_i p v q h'' hcall
   cases hh
   obtain ⟨E',args',w',h1,h2,h3,h4⟩:=absOp_ok r (rx.rt.opnd r) hop
   refine wpR_enter (abs_nodefer hop) h1 (((hcl f args h' p v q h'' hcall).2 E' w' args' h2 h4).mono ?_)
   rintro e w'' ⟨E'',res,g,q1,q2,q3,rfl,rfl⟩
   cases p with
   | false =>
    cases e with
    | returned v'=>exact hk v _ E'' w'' _ (by simp) q2 (h3.trans q3) (hnext (h3.trans q3) q1)
    | _=>cases q1
   | true =>
    cases e with
    | panicked chain =>
     obtain ⟨v',rfl,hv⟩:=q1
     exact hp v v' _ E'' w'' (by simp) q2 (h3.trans q3) hv
    | _=>cases q1
  ·cases hh
 unfold opM at hh
 split at hh
 ·rename_i y ho
  split at hh
  case h_2=>cases hh
  rename_i t u e
  cases hh
  have hv:=rx.rt.opnd r y _ e
  generalize hx:x.eval y=xv at hv
  cases hv with
  | iface _ hv =>
   rename_i u'
   refine wpR_panic (v:=.iface t u') (w':=w) (fun d e=>by rw [ho] at e;cases e) ?_ (hp _ _ h E w (by simp) r (.refl E w) (.iface t hv))
   unfold execOp
   rw [ho]
   simp only [hx,Instr.panic,goPanic]
   rfl
 ·rename_i it s ho
  split at hh
  case h_2=>cases hh
  rename_i iv e
  rw [Option.map_eq_some_iff] at hh
  obtain ⟨l,hl,rfl⟩:=hh
  have hP:=nextM_P (k:=fun v h'=>(false,v,h') ∈ l.map fun x=>(false,x.1,x.2)) hl fun y hy=>List.mem_map.2 ⟨y,hy,rfl⟩
  obtain ⟨v,v',h',w',q1,q2,q3,q4,q5⟩:=nextP_run (t:=o.type) r hP (rx.rt.opnd r it iv e)
  refine wpR_value (v:=v') (w':=w') (fun d e=>by rw [ho] at e;cases e) ?_ (hk v h' E w' _ q5 q2 q3 (hnext q3 q4))
  unfold execOp
  rw [ho]
  exact val_run q1
 ·rename_i c ho
  split at hh
  ·rename_i k args hy
   rw [Option.map_eq_some_iff] at hh
   obtain ⟨l,hl,rfl⟩:=hh
   unfold opM.yieldOf at hy
   split at hy
   case h_2=>cases hy
   rename_i f hcal
   split at hy
   case h_2=>cases hy
   rename_i k' args' hf ha
   cases hy
   have hP:=roundM_P (K:=fun v h'=>(false,v,h') ∈ l.map fun x=>(false,x.1,x.2)) hcd hl fun y hy=>List.mem_map.2 ⟨y,hy,rfl⟩
   exact round_wp r rx ho hcal hf ha (fun v h' E' w' z hkk q1 q2 q3=>hk v h' E' w' z hkk q1 q2 q3) hP
  ·exact plain hh
 ·exact plain hh
theorem opM_logs {P:Program} {call:FCall} {code:CodeF} (hcl:FLogs call) (hcd:CodeL code) {o:Oper} {a:AA} {h:AH} {L:List (Bool × Value × AH)} (hh:opM P call code a o h=some L):∀ x ∈ L,Logs h x.2.2:=by
 have plain:opM.plainM P call a o h=some L→∀ x ∈ L,Logs h x.2.2:=by
  intro hh
  unfold opM.plainM at hh
  split at hh
  ·rename_i v h' hop
   cases hh
   intro x hx
   rw [List.mem_singleton.1 hx]
   exact absOp_logs hop
  ·rename_i h' hop
   cases hh
   intro x hx
   rw [List.mem_singleton.1 hx]
   exact absOp_logs hop
  ·rename_i f args h' hop
   split at hh
   case h_2=>cases hh
   rename_i p v q h'' hcall
   cases hh
   intro x hx
   rw [List.mem_singleton.1 hx]
   exact (absOp_logs hop).trans (hcl _ _ _ _ _ _ _ hcall)
  ·cases hh
 unfold opM at hh
 split at hh
 ·split at hh
  case h_2=>cases hh
  cases hh
  intro x hx
  rw [List.mem_singleton.1 hx]
  exact .refl _
 ·split at hh
  case h_2=>cases hh
  rw [Option.map_eq_some_iff] at hh
  obtain ⟨l,hl,rfl⟩:=hh
  intro x hx
  obtain ⟨y,hy,rfl⟩:=List.mem_map.1 hx
  exact nextM_logs hl y hy
 ·split at hh
  ·rw [Option.map_eq_some_iff] at hh
   obtain ⟨l,hl,rfl⟩:=hh
   intro x hx
   obtain ⟨y,hy,rfl⟩:=List.mem_map.1 hx
   exact roundM_logs hcd hl y hy
  ·exact plain hh
 ·exact plain hh
def goM (dst:Option Tmp) (k:AA→AH→Option Outs) (a:AA):List (Bool × Value × AH)→Option Outs
 | []=>some []
 | (p,v,h)::l=>match (if p then some [(HX.panic v,a,h)] else k (a.put dst v) h),goM dst k a l with
  | some x,some y=>some (x++y)
  | _,_=>none
theorem goM_mem {dst:Option Tmp} {k:AA→AH→Option Outs} {a:AA}:∀ {l:List (Bool × Value × AH)} {L:Outs},goM dst k a l=some L→∀ p v h,(p,v,h) ∈ l →
  (p=true∧(HX.panic v,a,h) ∈ L) ∨ (p=false∧∃ m,k (a.put dst v) h=some m∧∀ x ∈ m,x ∈ L):=by
 intro l
 induction l with
 | nil=>intro L _ p v h hm;cases hm
 | cons y l ih =>
  intro L hL p v h hm
  obtain ⟨p0,v0,h0⟩:=y
  simp only [goM] at hL
  split at hL
  ·rename_i x y hx hy
   cases hL
   rcases List.mem_cons.1 hm with e1 | hm
   ·cases e1
    cases p with
    | true=>rw [if_pos rfl] at hx;cases hx;exact .inl ⟨rfl,by simp⟩
    | false=>rw [if_neg (by simp)] at hx;exact .inr ⟨rfl,x,hx,fun z hz=>List.mem_append_left _ hz⟩
   ·rcases ih hy p v h hm with ⟨h1,h2⟩ | ⟨h1,m,h2,h3⟩
    ·exact .inl ⟨h1,List.mem_append_right _ h2⟩
    ·exact .inr ⟨h1,m,h2,fun z hz=>List.mem_append_right _ (h3 z hz)⟩
  ·cases hL
theorem goM_back {dst:Option Tmp} {k:AA→AH→Option Outs} {a:AA}:∀ {l:List (Bool × Value × AH)} {L:Outs},goM dst k a l=some L→∀ x ∈ L,∃ p v h,(p,v,h) ∈ l ∧
  (x=(HX.panic v,a,h) ∨ ∃ m,k (a.put dst v) h=some m∧x ∈ m):=by
 intro l
 induction l with
 | nil=>intro L hL x hx;cases hL;cases hx
 | cons y l ih =>
  intro L hL x hx
  obtain ⟨p0,v0,h0⟩:=y
  simp only [goM] at hL
  split at hL
  ·rename_i u w hu hw
   cases hL
   rcases List.mem_append.1 hx with h1 | h1
   ·refine ⟨p0,v0,h0,by simp,?_⟩
    cases p0 with
    | true=>rw [if_pos rfl] at hu;cases hu;exact .inl (List.mem_singleton.1 h1)
    | false=>rw [if_neg (by simp)] at hu;exact .inr ⟨u,hu,h1⟩
   ·obtain ⟨p,v,h,g1,g2⟩:=ih hw x h1
    exact ⟨p,v,h,List.mem_cons_of_mem _ g1,g2⟩
  ·cases hL
def opsM (P:Program) (call:FCall) (code:CodeF) (ops:Array Oper):List Nat→AA→AH→Option Outs
 | [],a,h=>some [(.normal,a,h)]
 | i::rest,a,h =>
  match ops[i]? with
  | none=>opsM P call code ops rest a h
  | some o=>if a.knows ops o then
    if Region.wanted o (a.yielded ops) then
     if isDefer o.op then match deferOf P a o with
      | some v=>opsM P call code ops rest ((a.defer v).put o.dst undef) h
      | none=>none
     else match opM P call code a o h with
     | some l=>goM o.dst (opsM P call code ops rest) a l
     | none=>none
    else opsM P call code ops rest (a.put o.dst undef) h
   else none
theorem opsM_ok {P:Program} {call:FCall} {code:CodeF} (hcl:FOk P call) (hcd:CodeH P code) {ops:Array Oper}:∀ (l:List Nat) {a:AA} {h:AH} {L:Outs} {Q:HX→AA→AH→Prop},opsM P call code ops l a h=some L→(∀ e a' h',(e,a',h') ∈ L→Q e a' h') →
  ∀ {B:Nat} {ro:Option Nat} {E₀ E:Ren} {w₀ w:World} {x:Act},RW P E h w→Ext E₀ w₀ E w→RX B ro E w a x→wpOpsR ro P ops (HPost P B ro E₀ w₀ Q) l x w:=by
 intro l
 induction l with
 | nil =>
  intro a h L Q hh hq B ro E₀ E w₀ w x r xt rx
  cases hh
  exact ⟨.normal,a,h,E,trivial,r,xt,rx,hq _ _ _ (by simp)⟩
 | cons i rest ih =>
  intro a h L Q hh hq B ro E₀ E w₀ w x r xt rx
  have hput:∀ (d:Option Tmp) (v:Value),(x.put d v).defers=x.defers:=fun d v=>by cases d <;> rfl
  simp only [opsM] at hh
  simp only [wpOpsR]
  cases ho:ops[i]? with
  | none=>rw [ho] at hh;exact ih hh hq r xt rx
  | some o =>
   rw [ho] at hh
   simp only at hh ⊢
   split at hh
   case isFalse=>cases hh
   rename_i hkn
   rw [← rx.rt.yielded ops hkn]
   split at hh
   ·rename_i hw
    rw [if_pos hw]
    split at hh
    ·split at hh
     ·rename_i v hv
      exact defer_wp hv r rx fun z rz=>ih hh hq r xt rz
     ·cases hh
    split at hh
    case h_2=>cases hh
    rename_i M hM
    refine opM_wp hcl hcd hM r rx (fun v h' E' w' z hm q1 q2 q3=>?_) (fun v v' h' E' w' hm q1 q2 q3=>?_)
    ·rcases goM_mem hh false v h' hm with ⟨e,_⟩ | ⟨_,m,h1,h2⟩
     ·cases e
     ·exact ih h1 (fun e a' h' hx=>hq e a' h' (h2 _ hx)) q1 (xt.trans q2) q3
    ·rcases goM_mem hh true v h' hm with ⟨_,h1⟩ | ⟨e,_⟩
     ·exact ⟨.panic v,a,h',E',⟨v',rfl,q3⟩,q1,xt.trans q2,rx.next q2 (rx.rt.mono q2.le) rfl rfl,hq _ _ _ h1⟩
     ·cases e
   ·rename_i hw
    rw [if_neg hw]
    exact ih hh hq r xt (rx.next (.refl E w) (rx.rt.put o.dst rv_undef) (hput _ _) (AA.put_rnd _ _ _))
theorem opsM_logs {P:Program} {call:FCall} {code:CodeF} (hcl:FLogs call) (hcd:CodeL code) {ops:Array Oper}:∀ (l:List Nat) {a:AA} {h:AH} {L:Outs},opsM P call code ops l a h=some L→∀ x ∈ L,Logs h x.2.2:=by
 intro l
 induction l with
 | nil =>
  intro a h L hh x hx
  cases hh
  rw [List.mem_singleton.1 hx]
  exact .refl _
 | cons i rest ih =>
  intro a h L hh
  simp only [opsM] at hh
  split at hh
  ·exact ih hh
  ·split at hh
   case isFalse=>cases hh
   split at hh
   ·split at hh
    ·split at hh
     ·exact ih hh
     ·cases hh
    split at hh
    case h_2=>cases hh
    rename_i M hM
    intro x hx
    obtain ⟨p,v,h',g1,g2⟩:=goM_back hh x hx
    have:=opM_logs hcl hcd hM _ g1
    rcases g2 with rfl | ⟨m,g2,g3⟩
    ·exact this
    ·exact this.trans (ih g2 x g3)
   ·exact ih hh
def loopM (body:AA→AH→Option Outs):Nat→AA→AH→Option Outs
 | 0,_,_=>none
 | k + 1,a,h=>bindO (body a h) fun e a' h'=>match e with
  | .normal=>loopM body k a' h'
  | e=>some [(e,a',h')]
def rndB (o:Option Nat) (h:AH):Bool:=match o with
 | none=>true
 | some k=>(loopAt h k).isSome
def codeM (P:Program) (call:FCall) (code:CodeF) (k:Nat):Code→AA→AH→Option Outs
 | .skip,a,h | .label _,a,h=>some [(.normal,a,h)]
 | .region _ ops draw,a,h=>if draw then (match drawRun P (callOf call) ops a h with
  | some (a',h')=>some [(.normal,a',h')]
  | none=>none) else opsM P call code ops (List.range ops.size) a h
 | .seq x y,a,h=>bindO (codeM P call code k x a h) fun e a' h'=>match e with
  | .normal=>codeM P call code k y a' h'
  | e=>some [(e,a',h')]
 | .cond c x y,a,h=>match a.opnd P c with
  | some (.bool true)=>codeM P call code k x a h
  | some (.bool false)=>codeM P call code k y a h
  | _=>none
 | .block id x,a,h=>(codeM P call code k x a h).map fun l=>l.map fun (e,a',h')=>match e with
  | .exit j=>if j=id then (.normal,a',h') else (.exit j,a',h')
  | e=>(e,a',h')
 | .loop x,a,h=>loopM (codeM P call code k x) k a h
 | .scope x,a,h=>bindO (codeM P call code k x a h) fun e a' h'=>match e with
  | .goto l=>match findLabel x l with
   | some rest=>scopeN code x k rest a' h'
   | none=>none
  | e=>some [(e,a',h')]
 | .exit id,a,h=>some [(.exit id,a,h)]
 | .goto l,a,h=>some [(.goto l,a,h)]
 | .ret,a,h=>some [(.ret,a,h)]
 | .rangeFunc g ps x y,a,h=>match a.opnd P g with
  | some (.func (.func f) first captured)=>if hasBody P f && rndB a.rnd.loop h then match call f (first.toList++.chan (some h.size)::captured.toList).toArray (h.push (.loop (recOf a ps x y)) none) with
   | some (false,_,_,h')=>match loopAt h' h.size with
    | some r=>if r.1.state ≠ .busy then match r.1.pending with
     | none=>some [(.normal,a,h'.put h.size none)]
     | some .ret=>some [(.ret,a,h'.put h.size none)]
     | some (.exit i)=>some [(.exit i,a,h'.put h.size none)]
     | some (.goto i)=>some [(.goto i,a,h'.put h.size none)]
     | _=>none
     else none
    | none=>none
   | _=>none
   else none
  | _=>none
 | _,_,_=>none
 where
 scopeN (code:CodeF) (c:Code):Nat→Code→AA→AH→Option Outs
 | 0,_,_,_=>none
 | n + 1,d,a,h=>bindO (code d a h) fun e a' h'=>match e with
  | .goto l=>match findLabel c l with
   | some rest=>scopeN code c n rest a' h'
   | none=>none
  | e=>some [(e,a',h')]
theorem HL.of_loopM {P:Program} {c:Code} {body:AA→AH→Option Outs} (hb:∀ a h L,body a h=some L→HW P c a h fun e a' h'=>(e,a',h') ∈ L):∀ (k:Nat) {a:AA} {h:AH} {L:Outs},loopM body k a h=some L→HL P c a h fun e a' h'=>(e,a',h') ∈ L:=by
 intro k
 induction k with
 | zero=>intro a h L hh;cases hh
 | succ k ih =>
  intro a h L hh
  simp only [loopM] at hh
  obtain ⟨l,h1,h2⟩:=bindO_eq hh
  refine HL.round ((hb a h l h1).mono fun e a' h' hm=>?_)
  obtain ⟨m,g1,g2⟩:=goO_mem h2 e a' h' hm
  cases e with
  | normal=>exact HL_mono (ih g1) fun e a h hx=>g2 _ hx
  | _=>cases g1;exact g2 _ (by simp)
 where
 HL_mono {P:Program} {c:Code} {a:AA} {h:AH} {Q R:HX→AA→AH→Prop} (hh:HL P c a h Q) (hr:∀ e a h,Q e a h→R e a h):HL P c a h R:=fun B ro E w x r rx b k cs hro=>by
  obtain ⟨e2,a2,w2,q2,arr⟩:=hh B ro E w x r rx b k cs hro
  exact ⟨e2,a2,w2,q2.mono hr,arr⟩
end Go.Ab
end
