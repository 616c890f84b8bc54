import Derived.KernelRfl
import Derived.Test.YtnaenhkldanjbaaDoorProg
import Derived.Test.YtnaenhkldanjbaaDoorZ13
set_option linter.unusedVariables false
set_option linter.unusedSimpArgs false
section
namespace Go.Ab
def seqO:List (Option Value)→Option (List Value)
 | []=>some []
 | x::l=>match x,seqO l with
  | some v,some vs=>some (v::vs)
  | _,_=>none
theorem seqO_nil:seqO []=some []:=Option.ext fun a=>Iff.intro (fun h=>h) fun h=>h
theorem seqO_cons {v:Value} {l:List (Option Value)}:seqO (some v::l)=(seqO l).bind fun vs=>some (v::vs):=by
 show (match some v,seqO l with | some v,some vs=>some (v::vs) | _,_=>none)=_
 cases seqO l <;> rfl
theorem oneOf_one {v:Value}:oneOf [v]=v:=by rw [oneOf]
theorem oneOf_two {v w:Value} {l:List Value}:oneOf (v::w::l)=.tuple (v::w::l).toArray:=by rw [oneOf];simp
def deferV (v:Value):Option Value:=match (some v:Option Value) with
 | some (.func (.func g) x y)=>some (.func (.func g) x y)
 | _=>none
theorem deferV_func {g:FuncId} {x y:Array Value}:deferV (.func (.func g) x y)=some (.func (.func g) x y):=Option.ext fun a=>Iff.intro (fun h=>h) fun h=>h
def resT (a:AA):ResultVar→Option Value
 | .tmp t=>a.get t
 | .cell c _=>a.get c
def resultsV (P:Program) (h:AH):List ResultVar→List (Option Value)→Option (List Value)
 | [],_=>some []
 | .tmp _::l,x::xs=>match x,resultsV P h l xs with
  | some v,some vs=>some (v::vs)
  | _,_=>none
 | .cell _ t::l,x::xs=>match x.bind (opLoad P h t),resultsV P h l xs with
  | some v,some vs=>some (v::vs)
  | _,_=>none
 | _::_,[]=>none
theorem resultsV_eq {P:Program} {a:AA} {h:AH}:∀ res:List ResultVar,resultsV P h res (res.map (resT a))=resultsOf P a h res:=by
 intro res
 induction res with
 | nil=>rfl
 | cons r l ih =>
  cases r with
  | tmp t=>rw [List.map_cons,resultsOf,← ih];rfl
  | cell c t=>rw [List.map_cons,resultsOf,← ih];rfl
def leftV (P:Program) (res:List ResultVar) (vals:List (Option Value)) (Q:Res→AH→Prop):AH→DM→Prop
 | h,.ret=>bq (resultsV P h res vals) fun vs=>Q (.ret (oneOf vs)) h
 | h,.pan v=>Q (.pan v) h
 | _,.recd _=>False
theorem leftV_ret {P:Program} {res:List ResultVar} {vals:List (Option Value)} {Q:Res→AH→Prop} {h:AH}:leftV P res vals Q h .ret=bq (resultsV P h res vals) fun vs=>Q (.ret (oneOf vs)) h:=propext (Iff.intro (fun h=>h) fun h=>h)
theorem leftV_pan {P:Program} {res:List ResultVar} {vals:List (Option Value)} {Q:Res→AH→Prop} {h:AH} {v:Value}:leftV P res vals Q h (.pan v)=Q (.pan v) h:=propext (Iff.intro (fun h=>h) fun h=>h)
def DC (P:Program) (f:FuncId) (args:List Value) (h:AH) (m:DM) (K:AH→DM→Prop):Prop :=
 (∃ fn c,P.funcs[f]?=some fn∧fn.body=some c∧(fn.name == "runtime.NumGoroutine")=false)∧∀ E w args' u,RW P E h w→RA E args.toArray args'→m.rel E u →
  CallsDIn Fence.wide 0 P f args' u w fun e u' w'=>∃ v' E' h' m',e=.returned v'∧RW P E' h' w'∧Ext E w E' w'∧m'.rel E' u'∧K h' m'
def dAllP (P:Program):List Value→AH→DM→(AH→DM→Prop)→Prop
 | [],h,m,K=>K h m
 | .func (.func f) first captured::l,h,m,K=>DC P f (first.toList++captured.toList) h m fun h' m'=>dAllP P l h' m'.settle K
 | _::_,_,_,_=>False
theorem dAllP_nil {P:Program} {h:AH} {m:DM} {K:AH→DM→Prop}:dAllP P [] h m K=K h m:=by rw [dAllP]
theorem dAllP_cons {P:Program} {f:FuncId} {x y:Array Value} {l:List Value} {h:AH} {m:DM} {K:AH→DM→Prop}:dAllP P (.func (.func f) x y::l) h m K=DC P f (x.toList++y.toList) h m fun h' m'=>dAllP P l h' m'.settle K:=by rw [dAllP]
theorem settle_ret:DM.ret.settle=.ret:=rfl
theorem settle_pan {v:Value}:(DM.pan v).settle=.pan v:=rfl
theorem settle_recd {v:Value}:(DM.recd v).settle=.ret:=rfl
def panD (P:Program) (res:List ResultVar) (Q:Res→AH→Prop) (D:List Value) (vals:List (Option Value)) (v:Value) (h:AH):Prop:=dAllP P D h (.pan v) (leftV P res vals Q)
def retV (P:Program) (res:List ResultVar) (Q:Res→AH→Prop) (D:List Value) (vals:List (Option Value)) (h:AH):Prop:=dAllP P D h .ret (leftV P res vals Q)
def retD (P:Program) (res:List ResultVar) (Q:Res→AH→Prop):HX→AA→AH→Prop
 | .normal,a,h | .ret,a,h=>retV P res Q a.rnd.dfs (res.map (resT a)) h
 | .panic v,a,h=>panD P res Q a.rnd.dfs (res.map (resT a)) v h
 | _,_,_=>False
theorem leaves_okP {P:Program} {fn:Func} {a:AA} {tmps:Array Value} {E₀:Ren} {w₀:World} {Q:Res→AH→Prop}:∀ (ds:List Deferred) {dfs:List Value} {E:Ren} {w:World} {h:AH} {m:DM} {u:FrameMode},
  dAllP P dfs h m (leftV P fn.results.toList (fn.results.toList.map (resT a)) Q)→RW P E h w→Ext E₀ w₀ E w→XD w₀.heap.size E w dfs ds→m.rel E u→(∀ v,m ≠ .recd v)→RT E a tmps →
  LeavesInM Fence.wide 0 P fn tmps (fun e w'=>∃ E' r h',Res.rel E' r e∧RW P E' h' w'∧Ext E₀ w₀ E' w'∧Q r h') ds u w:=by
 intro ds
 induction ds with
 | nil =>
  intro dfs E w h m u hy r x xd hm hnr rt
  obtain ⟨h0,ns,h1,h2,h3⟩:=xd
  cases h1
  rw [dAllP_nil] at hy
  cases m with
  | ret =>
   have hu:u=.returning:=hm
   subst hu
   have hy':bq (resultsV P h fn.results.toList (fn.results.toList.map (resT a))) fun vs=>Q (.ret (oneOf vs)) h:=hy
   rw [resultsV_eq] at hy'
   obtain ⟨vs,e1,hq⟩:=bq_eq hy'
   obtain ⟨v',g1,g2⟩:=results_run r rt e1
   exact ⟨v',g1,E,.ret (oneOf vs),h,g2,r,x,hq⟩
  | pan v =>
   obtain ⟨v',hu,hv⟩:=hm
   subst hu
   exact ⟨E,.pan v,h,⟨v',rfl,hv⟩,r,x,hy⟩
  | recd v=>exact absurd rfl (hnr v)
 | cons d ds ih =>
  intro dfs E w h m u hy r x xd hm hnr rt
  obtain ⟨h0,ns,h1,h2,h3⟩:=xd
  cases h1 with
  | mark n h1 =>
   rename_i ns
   obtain ⟨g1,g2,g3⟩:=h3 n (by simp)
   have hnf:E.fro n=none:=by
    cases hf:E.fro n with
    | none=>rfl
    | some c =>
     obtain ⟨_,_,_,q1,_⟩:=r.frz n c hf
     rw [g2] at q1;cases q1
   refine ⟨hm.ne,.inl ⟨n,_,rfl,run_takeDeferred g2,ih hy (r.asideFrom (.deferred none) g3 hnf) (x.aside (P:=P) (h:=h) _ g1 g3 hnf) ?_ hm hnr rt⟩⟩
   exact XD.aside h0 h1 (List.nodup_cons.1 h2).2 (fun m hm=>h3 m (List.mem_cons_of_mem _ hm)) (List.nodup_cons.1 h2).1 _
  | fn hv h1 =>
   rename_i dfs v f first cap
   unfold dAllP at hy
   split at hy
   ·rename_i hd;cases hd
   ·rename_i h m K f₀ first₀ cap₀ l₀ hd
    cases hd
    obtain ⟨⟨fn₀,c₀,hf₀,hb₀,hn₀⟩,hdc⟩:=hy
    cases hv with
    | func _ a1 a2 a3 a4 =>
     have hra:RA E (first₀.toList++cap₀.toList).toArray (first++cap):=by
      have e3:(first₀.toList++cap₀.toList).toArray=first₀++cap₀:=Array.ext' (by simp)
      rw [e3]
      exact RA.append ⟨a1,a3⟩ ⟨a2,a4⟩
     have henter:(invoke (.fn (.func f₀) cap) first).run P w=.ok (.enter f₀ (first++cap)) w:=by
      simp only [invoke]
      have:(callFunc f₀ (first++cap)).run P w=.ok (.enter f₀ (first++cap)) w:=by
       simp [callFunc,Sem.run_bind,hf₀,hb₀,(by simpa using hn₀:¬ fn₀.name = "runtime.NumGoroutine")]
      exact this
     refine ⟨hm.ne,.inr ⟨fun hd=>(by cases hd),.func f₀,cap,f₀,first++cap,rfl,henter,fun _ _=>trivial,?_⟩⟩
     refine (hdc E w _ u r hra hm).mono ?_
     rintro e u' w' ⟨v',E',h',m',rfl,q1,q2,q3,hy⟩
     obtain ⟨h0',ns',h1',h2',h3'⟩:=(XD.ext ⟨h0,ns,h1,h2,h3⟩ q2)
     refine ih hy q1 (x.trans q2) ⟨h0',ns',h1',h2',h3'⟩ q3.settle (fun v=>?_) (rt.mono q2.le)
     cases m' <;> simp [DM.settle]
   ·cases hy
theorem HC.bodyD {P:Program} {L:Nat→Option (List Nat)} {f:FuncId} {fn:Func} {c:Code} {args:List Value} {h:AH} {Q:Res→AH→Prop} (hf:P.funcs[f]?=some fn) (hb:fn.body=some c)
  (hh:wpC P L c (argA args fn.ntmps) h (retD P fn.results.toList Q)):HC P f args.toArray h Q:=by
 intro E w args' r ra
 refine callsIn_wide.1 (callsIn_of_wp_marks (n:=0) hf hb trivial ?_)
 have hst:=RT.start ra fn.ntmps
 have e0:(⟨tmsOf 0 args.toArray.toList .leaf,args.toArray.size + (fn.ntmps - args.toArray.size),{}⟩:AA)=argA args fn.ntmps:=by simp [argA]
 rw [e0] at hst
 refine wpIn_mono (wpC_ok c hh w.heap.size none E w _ r ⟨hst,trivial,XD.nil E w⟩) ?_
 rintro e y w' ⟨hx,a',h',E',h1,h2,h3,h4,h6⟩
 cases hx with
 | normal =>
  cases e with
  | normal=>exact leaves_okP _ h6 h2 h3 h4.xd rfl (by simp) h4.rt
  | _=>cases h1
 | ret =>
  cases e with
  | ret=>exact leaves_okP _ h6 h2 h3 h4.xd rfl (by simp) h4.rt
  | _=>cases h1
 | panic v =>
  cases e with
  | panic chain =>
   obtain ⟨v',hc,hv⟩:=h1
   exact leaves_okP _ h6 h2 h3 h4.xd ⟨v',by rw [hc],hv⟩ (by simp) h4.rt
  | _=>cases h1
 | _=>cases h6
def mkD (n:Nat) (D:List Value) (l:List (Nat × Value)):AA:=⟨(mkA n l).tm,n,⟨none,D⟩⟩
def lblY (c:Code) (l:Nat):Code:=match findLabel c l with
 | some (.seq .skip y)=>y
 | some r=>r
 | none=>.skip
theorem ScopeW.seq {ro:Option Nat} {P:Program} {c x y:Code} {Q:Exit→Act→World→Prop} {a:Act} {w:World} (h:x.wpR ro P (Exit.then (ScopeW ro P c y Q) (inScope ro P c Q)) a w):ScopeW ro P c (.seq x y) Q a w:=by
 intro b k cs hro
 obtain ⟨e,a₁,w₁,hq,harr⟩:=h b (.code y::.inScope c::k) cs hro (Fr_fn ro _) (Fr_room ro _)
 cases e with
 | normal =>
  obtain ⟨e₂,a₂,w₂,hq₂,harr₂⟩:=hq b k cs hro
  exact ⟨e₂,a₂,w₂,hq₂,.of_steps (StepsIn.trans (.one (fr_calm rfl) stepR_seq) harr) harr₂⟩
 | exit id =>
  have harr:ArrivesIn (Machine.fenced P (Fr ro)) P (lone (b.atR a (.code (.seq x y)::.inScope c::k)) cs w) b (.inScope c::k) cs (.exit id) a₁ w₁:=.of_steps (.one (fr_calm rfl) stepR_seq) (.pass (x:=.code y) rfl (fun _ _=>.inl (by simp)) harr)
  exact ⟨.exit id,a₁,w₁,hq,fun k' hk=>harr.1 k' (by simp [exitTo,hk]),fun hr hk=>by
   obtain ⟨k₁,g1,g2⟩:=harr.2 hr (by simp [exitTo,hk])
   exact ⟨k₁,g1,g2⟩⟩
 | goto l =>
  have harr:ArrivesIn (Machine.fenced P (Fr ro)) P (lone (b.atR a (.code (.seq x y)::.inScope c::k)) cs w) b (.inScope c::k) cs (.goto l) a₁ w₁:=.of_steps (.one (fr_calm rfl) stepR_seq) (.pass (x:=.code y) rfl (fun _ _=>.inl (by simp)) harr)
  obtain ⟨rest,hf,hs⟩:=hq
  obtain ⟨e₂,a₂,w₂,hq₂,harr₂⟩:=hs b k cs hro
  have hg:gotoIn l (.inScope c::k)=some (.code rest::.inScope c::k):=by simp [gotoIn,hf]
  exact ⟨e₂,a₂,w₂,hq₂,.of_steps (harr.1 _ hg) harr₂⟩
 | ret=>exact ⟨_,a₁,w₁,hq,.of_steps (.one (fr_calm rfl) stepR_seq) (.pass (x:=.code y) rfl (fun _ _=>.inl (by simp)) harr)⟩
 | panic ch=>exact ⟨_,a₁,w₁,hq,.of_steps (.one (fr_calm rfl) stepR_seq) (.pass (x:=.code y) rfl (fun _ _=>.inl (by simp)) harr)⟩
 | outgrown=>exact ⟨_,a₁,w₁,hq,.of_steps (.one (fr_calm rfl) stepR_seq) (.pass (x:=.code y) rfl (fun _ _=>.inl (by simp)) harr)⟩
def enterK (P:Program) (c y:Code) (Q:HX→AA→AH→Prop):HX→AA→AH→Prop
 | .normal,a,h=>HS P c y a h Q
 | .goto _,_,_=>False
 | e,a,h=>Q e a h
theorem HS.seq {P:Program} {c x y:Code} {a:AA} {h:AH} {Q:HX→AA→AH→Prop} (hh:HW P x a h (enterK P c y Q)):HS P c (.seq x y) a h Q:=by
 intro B ro E w z r rx
 refine ScopeW.seq (wpIn_mono (hh B ro E w z r rx) ?_)
 rintro e y w' ⟨hx,a',h',E',h1,h2,h3,h4,h6⟩
 cases hx with
 | normal =>
  cases e with
  | normal =>
   intro b k cs hro
   obtain ⟨e2,a2,w2,q2,arr⟩:=h6 B ro E' w' y h2 h4 b k cs hro
   exact ⟨e2,a2,w2,q2.ext h3,arr⟩
  | _=>cases h1
 | goto l=>cases h6
 | _ =>
  cases e <;> first
   | (cases h1;done)
   | exact ⟨_,a',h',E',h1,h2,h3,h4,h6⟩
theorem HW.skip {P:Program} {a:AA} {h:AH} {Q:HX→AA→AH→Prop} (hh:Q .normal a h):HW P .skip a h Q:=wpC_ok (L:=fun _=>none) .skip hh
theorem HS.lbl {P:Program} {c d:Code} {l:Nat} {a:AA} {h:AH} {Q:HX→AA→AH→Prop} (hf:findLabel c l=some (.seq .skip d)) (hh:HS P c d a h Q):HS P c (.seq .skip d) a h Q:=HS.seq (HW.skip hh)
def wpE (P:Program) (L:Nat→Option (List Nat)) (c:Code):Code→AA→AH→(HX→AA→AH→Prop)→Prop
 | .seq (.label l) y,a,h,Q=>HS P c y (keepL L (rid y) a) h Q
 | .seq x y,a,h,Q=>wpC P L x a h (fun e a h=>match e with
  | .normal=>wpE P L c y a h Q
  | .goto _=>False
  | e=>Q e a h)
 | _,_,_,_=>False
theorem HS.enter {P:Program} {L:Nat→Option (List Nat)} {c:Code}:∀ (d:Code) {a:AA} {h:AH} {Q:HX→AA→AH→Prop},wpE P L c d a h Q→HS P c d a h Q:=by
 intro d
 induction d with
 | seq x y _ ih =>
  intro a h Q hh
  have key:∀ {a:AA} {h:AH},wpC P L x a h (fun e a h=>match e with
    | .normal=>wpE P L c y a h Q
    | .goto _=>False
    | e=>Q e a h)→HS P c (.seq x y) a h Q:=fun hh=>HS.seq fun B ro E w z r rx=>wpIn_mono (wpC_ok x hh B ro E w z r rx) fun e y w' hp=>hp.mono fun e a h hq=>by
   cases e with
   | normal=>exact ih hq
   | goto l=>exact hq
   | _=>exact hq
  cases x with
  | label l =>
   have hh':HS P c y (keepL L (rid y) a) h Q:=hh
   exact HS.seq (wpC_ok (L:=L) (.label l) (show enterK P c y Q .normal a h from fun B ro E w z r rx=>hh' B ro E w z r (rx.keepL L _)))
  | _=>exact key hh
 | _=>intro a h Q hh;cases hh
def okP:Code→List Dir→Bool
 | .seq _ _,[]=>true
 | .seq a _,.l::p=>okP a p
 | .seq _ b,.r::p=>okP b p
 | .cond _ a _,.l::p=>okP a p
 | .cond _ _ b,.r::p=>okP b p
 | .block _ a,.i::p=>okP a p
 | .loop a,.i::p=>okP a p
 | .scope a,.i::p=>okP a p
 | _,_=>false
theorem join_eq {P:Program} {L:Nat→Option (List Nat)} {a:AA} {h:AH}:∀ {p:List Dir} {code:Code} {Q:HX→AA→AH→Prop},okP code p=true→keepL L (rid (cAt code (p++[.r]))) a=a →
  wpC P L (cAt code (p++[.r])) a h (ctxAt P L code (p++[.r]) Q)=ctxAt P L code (p++[.l]) Q .normal a h:=by
 intro p
 induction p with
 | nil =>
  intro code Q ho hk
  cases code with
  | seq x y =>
   have e1:cAt (.seq x y) ([]++[.r])=y:=by show cAt y []=y;cases y <;> rfl
   have e2:ctxAt P L (.seq x y) ([]++[.r]) Q=Q:=by show ctxAt P L y [] Q=Q;cases y <;> rfl
   have e3:ctxAt P L (.seq x y) ([]++[.l]) Q=seqK (fun a h=>wpC P L y (keepL L (rid y) a) h Q) Q:=by show ctxAt P L x [] _=_;cases x <;> rfl
   rw [e1] at hk ⊢
   rw [e2,e3]
   show _=wpC P L y (keepL L (rid y) a) h Q
   rw [hk]
  | _=>cases ho
 | cons d p ih =>
  intro code Q ho hk
  cases code with
  | seq x y=>cases d with
   | l=>exact ih (code:=x) ho hk
   | r=>exact ih (code:=y) ho hk
   | i=>cases ho
  | cond c x y=>cases d with
   | l=>exact ih (code:=x) ho hk
   | r=>exact ih (code:=y) ho hk
   | i=>cases ho
  | block i x=>cases d with
   | i=>exact ih (code:=x) ho hk
   | _=>cases ho
  | loop x=>cases d with
   | i=>exact ih (code:=x) ho hk
   | _=>cases ho
  | scope x=>cases d with
   | i=>exact ih (code:=x) ho hk
   | _=>cases ho
  | _=>cases ho
theorem flatV_cat {P:Program} {a b:ByteArray} (hs:a.size + b.size ≤ 9223372036854775807):flatV P (Op.stringOp .add a b)=some (.string (a++b)):=by
 have e:¬ (((a.size + b.size:Nat):Int) > IntKind.i64.max):=by
  have:IntKind.i64.max=9223372036854775807:=rfl
  omega
 unfold flatV Op.stringOp
 simp only
 rw [if_neg e]
 rfl
theorem bin_cat {P:Program} {t:TypeId} {x y:Operand} {a b:ByteArray} {h:AH} (hb:absBin P .add t x y (.string a) (.string b) h=valH h (flatV P (Op.stringOp .add a b))) (hs:a.size + b.size ≤ 9223372036854775807):binV P .add t x y (.string a) (.string b) h=some (.string (a++b)):=by
 unfold binV
 rw [hb,flatV_cat hs]
 rfl
theorem resK_ret {k pk:Value→AH→Prop} {v:Value} {h:AH}:resK k pk (.ret v) h=k v h:=propext (Iff.intro (fun h=>h) fun h=>h)
theorem resK_pan {k pk:Value→AH→Prop} {v:Value} {h:AH}:resK k pk (.pan v) h=pk v h:=propext (Iff.intro (fun h=>h) fun h=>h)
def wpMO (P:Program) (ops:Array Oper):List Nat→AA→AH→DM→(HX→AA→AH→DM→Prop)→Prop
 | [],a,h,m,Q=>Q .normal a h m
 | i::rest,a,h,m,Q=>match ops[i]? with
  | none=>False
  | some o=>match isRecover o.op,o.guard,m with
   | true,none,.pan v=>wpMO P ops rest (a.put o.dst v) h (.recd v) Q
   | true,none,m=>wpMO P ops rest (a.put o.dst .nilIface) h m Q
   | true,_,_=>False
   | false,_,m=>stepY P ops o a h (fun v h'=>wpMO P ops rest (a.put o.dst v) h' m Q) fun _ _=>False
def wpMC (P:Program):Code→AA→AH→DM→(HX→AA→AH→DM→Prop)→Prop
 | .skip,a,h,m,Q=>Q .normal a h m
 | .label _,a,h,m,Q=>Q .normal a h m
 | .region _ ops draw,a,h,m,Q=>if draw then (if orderedY P ops then wpY P ops (cloB ops.toList []) (orderOf P ops) [] a h (fun a h=>Q .normal a h m) (fun _ _=>False) else False) else wpMO P ops (List.range ops.size) a h m Q
 | .seq x y,a,h,m,Q=>wpMC P x a h m fun e a h m=>match e with
  | .normal=>wpMC P y a h m Q
  | e=>Q e a h m
 | .cond c x y,a,h,m,Q=>condP (a.opnd P c) (wpMC P x a h m Q) (wpMC P y a h m Q)
 | .ret,a,h,m,Q=>Q .ret a h m
 | _,_,_,_,_=>False
def plainD (o:Oper):Bool:=isRecover o.op || (plainY o && match o.op with
 | .call c=>match c.callee with
  | .builtin _=>true
  | _=>false
 | _=>true)
def plainDC:Code→Bool
 | .region _ ops _=>ops.toList.all plainD
 | .seq x y=>plainDC x && plainDC y
 | .cond _ x y=>plainDC x && plainDC y
 | _=>true
theorem absOp_noenter {P:Program} {ρ:Operand→Option Value} {o:Oper} {h g:AH} {f:FuncId} {args:Array Value} (hc:∀ c,o.op=.call c→∃ b,c.callee=.builtin b) (hop:absOp P ρ o h=some (.enter f args g)):False:=by
 have noVal:∀ {v:Option Value},valH h v=some (.enter f args g)→False:=fun e=>by obtain ⟨u,_,e⟩:=valH_eq e;cases e
 have noValP:∀ {v:Option (Value × AH)},valP v=some (.enter f args g)→False:=fun e=>by obtain ⟨u,g,_,e⟩:=valP_eq e;cases e
 unfold absOp at hop
 repeat' split at hop
 all_goals first
  | (cases hop;done)
  | (exact noVal hop)
  | (exact noValP hop)
  | skip
 ·unfold absBin at hop
  repeat' split at hop
  all_goals first
   | (cases hop;done)
   | (exact noVal hop)
 ·unfold absConvert at hop
  repeat' split at hop
  all_goals first
   | (cases hop;done)
   | (exact noVal hop)
 ·rename_i ho
  obtain ⟨b,hb⟩:=hc _ ho
  unfold absCall at hop
  rw [hb] at hop
  cases b <;> (simp only at hop;repeat' split at hop) <;> first
   | (cases hop;done)
   | (exact noVal hop)
   | (exact noValP hop)
theorem dOps_of {P:Program} {ops:Array Oper} (hp:ops.toList.all plainD=true) {Q:HX→AA→AH→DM→Prop}:∀ {l:List Nat} {a:AA} {h:AH} {m:DM},wpMO P ops l a h m Q→∃ a' h' m',dOps P ops l a h m=some (a',h',m')∧Q .normal a' h' m':=by
 intro l
 induction l with
 | nil=>intro a h m hh;exact ⟨a,h,m,rfl,hh⟩
 | cons i rest ih =>
  intro a h m hh
  unfold wpMO at hh
  unfold dOps
  cases ho:ops[i]? with
  | none=>rw [ho] at hh;cases hh
  | some o =>
   rw [ho] at hh
   have hpo:plainD o=true:=List.all_eq_true.1 hp o (List.mem_of_getElem? (by simpa using ho))
   cases hr:isRecover o.op with
   | true =>
    cases hg:o.guard with
    | none =>
     have hk:a.knows ops o=true:=by unfold AA.knows;rw [hg]
     have hw:Region.wanted o (a.yielded ops)=true:=by unfold Region.wanted;rw [hg]
     simp only [hr,hg] at hh
     simp only [hk,hw,if_true,hr]
     cases m with
     | pan v=>exact ih hh
     | ret=>exact ih hh
     | recd v=>exact ih hh
    | some g=>cases m <;> simp only [hr,hg] at hh
   | false =>
    have hh':stepY P ops o a h (fun v h'=>wpMO P ops rest (a.put o.dst v) h' m Q) fun _ _=>False:=by
     simp only [hr] at hh
     cases m <;> exact hh
    have hpl:plainY o=true∧∀ c,o.op=.call c→∃ b,c.callee=.builtin b:=by
     unfold plainD at hpo
     rw [hr,Bool.false_or,Bool.and_eq_true] at hpo
     refine ⟨hpo.1,fun c hc=>?_⟩
     have:=hpo.2
     rw [hc] at this
     simp only at this
     split at this
     ·rename_i b hb;exact ⟨b,hb⟩
     ·cases this
    obtain ⟨hk,hcs⟩:=stepY_cases hpl.1 hh'
    simp only [hk,if_true,hr,Bool.false_eq_true,if_false]
    rcases hcs with ⟨hw,hK⟩ | ⟨hw,out,habs,hout⟩
    ·simp only [hw,Bool.false_eq_true,if_false];exact ih hK
    ·simp only [hw,if_true,habs]
     cases out with
     | val v h'=>exact ih hout
     | unit h'=>exact ih hout
     | enter f args g=>exact absurd habs fun e=>absOp_noenter hpl.2 e
theorem wpSIn_mono {F:Fence} {n:Nat} {P:Program} {c:Code} {Q R:Exit→Act→List Frame→World→Prop} {a:Act} {cs:List Frame} {w:World} (h:c.wpSIn F n P Q a cs w) (hr:∀ e a cs w,Q e a cs w→R e a cs w):c.wpSIn F n P R a cs w:=by
 intro b k hk hro hf hroom
 obtain ⟨e,a',cs',w',hl,hq,harr⟩:=h b k hk hro hf hroom
 exact ⟨e,a',cs',w',hl,hr _ _ _ _ hq,harr⟩
def DPost (P:Program) (E:Ren) (w:World) (c0:Frame) (cs:List Frame) (Q:HX→AA→AH→DM→Prop) (e:Exit) (y:Act) (fs:List Frame) (w':World):Prop :=
 ∃ x a' h' m' E' u',((x=.normal∧e=.normal) ∨ (x=.ret∧e=.ret))∧fs = { c0 with mode:=u' }::cs∧RW P E' h' w'∧Ext E w E' w'∧RT E' a' y.tmps∧y.defers=[]∧m'.rel E' u'∧Q x a' h' m'
theorem wpMC_ok {P:Program}:∀ (c:Code) {Q:HX→AA→AH→DM→Prop} {a:AA} {h:AH} {m:DM},plainDC c=true→wpMC P c a h m Q→∀ {E:Ren} {w:World} {x:Act} {c0:Frame} {cs:List Frame},RW P E h w→RT E a x.tmps→x.defers=[]→m.rel E c0.mode →
  c.wpSIn Fence.wide 0 P (DPost P E w c0 cs Q) x (c0::cs) w:=by
 intro c
 induction c with
 | skip=>intro Q a h m _ hh E w x c0 cs r rt hd hm;exact wpSIn_of_wpIn rfl (wpIn_skip ⟨.normal,a,h,m,E,c0.mode,.inl ⟨rfl,rfl⟩,rfl,r,.refl E w,rt,hd,hm,hh⟩)
 | label l=>intro Q a h m _ hh E w x c0 cs r rt hd hm;exact wpSIn_of_wpIn rfl (wpIn_label ⟨.normal,a,h,m,E,c0.mode,.inl ⟨rfl,rfl⟩,rfl,r,.refl E w,rt,hd,hm,hh⟩)
 | ret=>intro Q a h m _ hh E w x c0 cs r rt hd hm;exact wpSIn_of_wpIn rfl (wpIn_ret ⟨.ret,a,h,m,E,c0.mode,.inr ⟨rfl,rfl⟩,rfl,r,.refl E w,rt,hd,hm,hh⟩)
 | region id ops draw =>
  intro Q a h m hp hh E w x c0 cs r rt hd hm
  cases draw with
  | true =>
   simp only [wpMC,if_true] at hh
   split at hh
   ·rename_i hoy
    refine wpSIn_of_wpIn rfl (show (Code.region id ops true).wpR none P _ x w from draw_Y (Q:=fun a h=>Q .normal a h m) (PK:=fun _ _=>False) hoy hh r rt hd (fun a₂ h₂ E' w' y hq hr q1 q2 q3 q4=>?_) fun v v' h' E' w' y hq _ _ _ _ _=>hq.elim)
    exact ⟨.normal,a₂,h₂,m,E',c0.mode,.inl ⟨rfl,rfl⟩,rfl,q1,q2,q3,q4,hm.mono q2.le,hq⟩
   ·cases hh
  | false =>
   obtain ⟨a',h',m',e,hq⟩:=dOps_of hp (by simpa [wpMC] using hh)
   exact wpSIn_region (dOps_ok _ e r rt hd hm fun E' w' y u' q1 q2 q3 q4 q5=>⟨.normal,a',h',m',E',u',.inl ⟨rfl,rfl⟩,rfl,q1,q2,q3,q4,q5,hq⟩)
 | seq p q ihp ihq =>
  intro Q a h m hp hh E w x c0 cs r rt hd hm
  simp only [plainDC,Bool.and_eq_true] at hp
  refine wpSIn_seq (wpSIn_mono (ihp hp.1 hh r rt hd hm) ?_)
  rintro e y fs w' ⟨hx,a',h',m',E',u',h1,rfl,h3,h4,h5,h6,h7,h8⟩
  rcases h1 with ⟨rfl,rfl⟩ | ⟨rfl,rfl⟩
  ·refine wpSIn_mono (ihq hp.2 h8 (c0:={ c0 with mode:=u' }) h3 h5 h6 h7) ?_
   rintro e y fs w'' ⟨hx,a2,h2,m2,E2,u2,g1,rfl,g3,g4,g5,g6,g7,g8⟩
   exact ⟨hx,a2,h2,m2,E2,u2,g1,rfl,g3,h4.trans g4,g5,g6,g7,g8⟩
  ·exact ⟨.ret,a',h',m',E',u',.inr ⟨rfl,rfl⟩,rfl,h3,h4,h5,h6,h7,h8⟩
 | cond c p q ihp ihq =>
  intro Q a h m hp hh E w x c0 cs r rt hd hm
  simp only [plainDC,Bool.and_eq_true] at hp
  simp only [wpMC,condP] at hh
  split at hh
  ·rename_i b hb
   have hv:=rt.opnd r c _ hb
   generalize hx:x.eval c=u at hv
   cases hv
   cases b with
   | true=>exact wpSIn_cond (t:=true) hx (ihp hp.1 (by simpa using hh) r rt hd hm)
   | false=>exact wpSIn_cond (t:=false) hx (ihq hp.2 (by simpa using hh) r rt hd hm)
  ·cases hh
 | _=>intro Q a h m _ hh;cases hh
def endDM (Q:AH→DM→Prop):HX→AA→AH→DM→Prop
 | .normal,_,h,m | .ret,_,h,m=>Q h m
 | _,_,_,_=>False
theorem DC.of_text {P:Program} {f:FuncId} {fn:Func} {c:Code} {args:List Value} {h:AH} {m:DM} {Q:AH→DM→Prop} (hf:P.funcs[f]?=some fn) (hn:(fn.name == "runtime.NumGoroutine")=false) (hb:fn.body=some c) (hr:fn.results.toList=[]) (hp:plainDC c=true)
  (hh:wpMC P c (argA args fn.ntmps) h m (endDM Q)):DC P f args h m Q:=by
 refine ⟨⟨fn,c,hf,hb,hn⟩,fun E w args' u r ra hm=>?_⟩
 refine callsDIn_of_wpSIn hf hb trivial fun c₀ cs hu=>?_
 have hst:=RT.start ra fn.ntmps
 have e0:(⟨tmsOf 0 args.toArray.toList .leaf,args.toArray.size + (fn.ntmps - args.toArray.size),{}⟩:AA)=argA args fn.ntmps:=by simp [argA]
 rw [e0] at hst
 refine wpSIn_mono (wpMC_ok c hp hh r hst rfl (by rw [hu];exact hm)) ?_
 rintro e y fs w' ⟨hx,a',h',m',E',u',h1,rfl,h3,h4,h5,h6,h7,h8⟩
 have hvs:resultsOf P a' h' fn.results.toList=some []:=by rw [hr];rfl
 obtain ⟨v',g1,g2⟩:=results_run h3 h5 hvs
 rcases h1 with ⟨rfl,rfl⟩ | ⟨rfl,rfl⟩
 ·exact ⟨h6,u',rfl,v',g1,v',E',h',m',rfl,h3,h4,h7,h8⟩
 ·exact ⟨h6,u',rfl,v',g1,v',E',h',m',rfl,h3,h4,h7,h8⟩
theorem guardQ_undef (h:AH) (w:Bool) (op:(Value→AH→Prop)→Prop) (k:Value→AH→Prop):guardQ undef w h op k=k undef h:=propext (guardQ_iff.trans (by simp [guardI,undef]))
abbrev RQ:=Res→AH→Prop
end Go.Ab
end
section
namespace Go.Proofs.YtnaenhkldanjbaaDoor.X
open Go.Ab
set_option maxRecDepth 100000
noncomputable def code3:Code:=match Tryd.f3.body with | some c=>c | none=>.skip
noncomputable def res3:List ResultVar:=Tryd.f3.results.toList
def L3:Nat→Option (List Nat):=fun r=>none
noncomputable def X3 (t0:Value) (h:AH) (Q:RQ):Prop :=
 let t2:Value:=(Value.bool false)
 HC Tryd.prog 4 (([]:List Value)++[]++([]:List Value)).toArray h (resK (fun t8 h =>
 bq (unV Tryd.prog .not t8) fun t9 =>
 condP (some t9)
 (let t2:Value:=(Value.bool false)
 Q (.ret t2) h)
 (let t11:Value:=t0
 HC Tryd.prog 5 (([]:List Value)++[t11]++([]:List Value)).toArray h (resK (fun t12 h =>
 let t10:Value:=t12
 bq (opExtract t10 0) fun t13 =>
 bq (opExtract t10 1) fun t14 =>
 (fun t4 h =>
 let t3:Value:=t13
 bq (stN 2 h t4 t14) fun h=>(fun _ h =>
 let t16:Value:=t0
 HC Tryd.prog 6 (([]:List Value)++[t16]++([]:List Value)).toArray h (resK (fun t17 h =>
 let t15:Value:=t17
 bq (opExtract t15 0) fun t18 =>
 bq (opExtract t15 1) fun t19 =>
 bq (opExtract t15 2) fun t20 =>
 (fun t5 h =>
 bq (stN 10 h t5 t18) fun h=>(fun _ h =>
 let t6:Value:=t19
 let t7:Value:=t20
 bq (fa 0 1 t4) fun t21 =>
 bq (ld1 h t21) fun t22 =>
 let t23:Value:=t6
 bq (binV Tryd.prog .neq 3 (.tmp 22) (.tmp 23) t22 t23 h) fun t24 =>
 let t25:Value:=t24
 guardQ t25 false h (fun k=>bq (fa 1 1 t4) fun v=>k v h) fun t26 h =>
 guardQ t25 false h (fun k=>bq (ld1 h t26) fun v=>k v h) fun t27 h =>
 guardQ t25 false h (fun k=>k t7 h) fun t28 h =>
 guardQ t25 false h (fun k=>bq (binV Tryd.prog .neq 3 (.tmp 27) (.tmp 28) t27 t28 h) fun v=>k v h) fun t29 h =>
 bq (pickV t25 (Value.bool true) t29) fun t30 =>
 let t31:Value:=t30
 guardQ t31 false h (fun k=>k t3 h) fun t32 h =>
 guardQ t31 false h (fun k=>bq (binV Tryd.prog .eql 23 (.tmp 32) (.const (Value.pointer none)) t32 (Value.pointer none) h) fun v=>k v h) fun t33 h =>
 guardQ t31 false h (fun k=>k t6 h) fun t34 h =>
 guardQ t31 false h (fun k=>bq (binV Tryd.prog .neq 3 (.tmp 34) (.const (Value.int .i64 0)) t34 (Value.int .i64 0) h) fun v=>k v h) fun t35 h =>
 guardQ t31 false h (fun k=>bq (binV Tryd.prog .neq 4 (.tmp 33) (.tmp 35) t33 t35 h) fun v=>k v h) fun t36 h =>
 bq (pickV t31 (Value.bool true) t36) fun t37 =>
 condP (some t37)
 (let t2:Value:=(Value.bool false)
 Q (.ret t2) h)
 (let t38:Value:=t6
 bq (binV Tryd.prog .neq 3 (.tmp 38) (.const (Value.int .i64 0)) t38 (Value.int .i64 0) h) fun t39 =>
 condP (some t39)
 (let t2:Value:=(Value.bool true)
 Q (.ret t2) h)
 (let t40:Value:=t3
 bq (nilV Tryd.prog t40) fun t41 =>
 bq (fa 0 1 t41) fun t42 =>
 bq (ld1 h t42) fun t43 =>
 bq (fa 0 1 t5) fun t44 =>
 bq (ld1 h t44) fun t45 =>
 HC Tryd.prog 7 (([]:List Value)++[t43,t45]++([]:List Value)).toArray h (resK (fun t46 h =>
 (True) ∧
 let t47:Value:=t46
 guardQ t47 true h (fun k=>k t3 h) fun t48 h =>
 guardQ t47 true h (fun k=>bq (nilV Tryd.prog t48) fun v=>k v h) fun t49 h =>
 guardQ t47 true h (fun k=>bq (fa 1 1 t49) fun v=>k v h) fun t50 h =>
 guardQ t47 true h (fun k=>bq (ld1 h t50) fun v=>k v h) fun t51 h =>
 guardQ t47 true h (fun k=>bq (fa 1 1 t5) fun v=>k v h) fun t52 h =>
 guardQ t47 true h (fun k=>bq (ld1 h t52) fun v=>k v h) fun t53 h =>
 guardQ t47 true h (fun k=>HC Tryd.prog 7 (([]:List Value)++[t51,t53]++([]:List Value)).toArray h (resK k (fun v h=>Q (.pan v) h))) fun t54 h =>
 (True) ∧
 bq (pickV t47 t54 (Value.bool false)) fun t55 =>
 let t56:Value:=t55
 guardQ t56 true h (fun k=>k t3 h) fun t57 h =>
 guardQ t56 true h (fun k=>bq (nilV Tryd.prog t57) fun v=>k v h) fun t58 h =>
 guardQ t56 true h (fun k=>bq (fa 2 1 t58) fun v=>k v h) fun t59 h =>
 guardQ t56 true h (fun k=>bq (ld1 h t59) fun v=>k v h) fun t60 h =>
 guardQ t56 true h (fun k=>bq (fa 2 1 t5) fun v=>k v h) fun t61 h =>
 guardQ t56 true h (fun k=>bq (ld1 h t61) fun v=>k v h) fun t62 h =>
 guardQ t56 true h (fun k=>HC Tryd.prog 7 (([]:List Value)++[t60,t62]++([]:List Value)).toArray h (resK k (fun v h=>Q (.pan v) h))) fun t63 h =>
 (True) ∧
 bq (pickV t56 t63 (Value.bool false)) fun t64 =>
 let t65:Value:=t64
 guardQ t65 true h (fun k=>k t3 h) fun t66 h =>
 guardQ t65 true h (fun k=>bq (nilV Tryd.prog t66) fun v=>k v h) fun t67 h =>
 guardQ t65 true h (fun k=>bq (fa 3 1 t67) fun v=>k v h) fun t68 h =>
 guardQ t65 true h (fun k=>bq (ld1 h t68) fun v=>k v h) fun t69 h =>
 guardQ t65 true h (fun k=>bq (fa 3 1 t5) fun v=>k v h) fun t70 h =>
 guardQ t65 true h (fun k=>bq (ld1 h t70) fun v=>k v h) fun t71 h =>
 guardQ t65 true h (fun k=>bq (binV Tryd.prog .eql 4 (.tmp 69) (.tmp 71) t69 t71 h) fun v=>k v h) fun t72 h =>
 bq (pickV t65 t72 (Value.bool false)) fun t73 =>
 let t74:Value:=t73
 guardQ t74 true h (fun k=>k t3 h) fun t75 h =>
 guardQ t74 true h (fun k=>bq (nilV Tryd.prog t75) fun v=>k v h) fun t76 h =>
 guardQ t74 true h (fun k=>bq (fa 4 1 t76) fun v=>k v h) fun t77 h =>
 guardQ t74 true h (fun k=>bq (ld1 h t77) fun v=>k v h) fun t78 h =>
 guardQ t74 true h (fun k=>bq (fa 4 1 t5) fun v=>k v h) fun t79 h =>
 guardQ t74 true h (fun k=>bq (ld1 h t79) fun v=>k v h) fun t80 h =>
 guardQ t74 true h (fun k=>bq (binV Tryd.prog .eql 4 (.tmp 78) (.tmp 80) t78 t80 h) fun v=>k v h) fun t81 h =>
 bq (pickV t74 t81 (Value.bool false)) fun t82 =>
 let t83:Value:=t82
 guardQ t83 true h (fun k=>k t3 h) fun t84 h =>
 guardQ t83 true h (fun k=>bq (nilV Tryd.prog t84) fun v=>k v h) fun t85 h =>
 guardQ t83 true h (fun k=>bq (fa 5 5 t85) fun v=>k v h) fun t86 h =>
 guardQ t83 true h (fun k=>bq (ldN 5 h t86) fun v=>k v h) fun t87 h =>
 guardQ t83 true h (fun k=>bq (fa 5 5 t5) fun v=>k v h) fun t88 h =>
 guardQ t83 true h (fun k=>bq (ldN 5 h t88) fun v=>k v h) fun t89 h =>
 guardQ t83 true h (fun k=>HC Tryd.prog 8 (([]:List Value)++[t87,t89]++([]:List Value)).toArray h (resK k (fun v h=>Q (.pan v) h))) fun t90 h =>
 (True) ∧
 bq (pickV t83 t90 (Value.bool false)) fun t91 =>
 let t2:Value:=t91
 Q (.ret t2) h) (fun v h=>Q (.pan v) h))))) undef h) (opNew h 34 #[(Value.slice none 0 0),(Value.slice none 0 0),(Value.slice none 0 0),(Value.bool false),(Value.bool false),(Value.string (ByteArray.mk #[])),(Value.int .i64 0),(Value.int .i64 0),(Value.string (ByteArray.mk #[])),(Value.slice none 0 0)]).1 (opNew h 34 #[(Value.slice none 0 0),(Value.slice none 0 0),(Value.slice none 0 0),(Value.bool false),(Value.bool false),(Value.string (ByteArray.mk #[])),(Value.int .i64 0),(Value.int .i64 0),(Value.string (ByteArray.mk #[])),(Value.slice none 0 0)]).2) (fun v h=>Q (.pan v) h))) undef h) (opNew h 26 #[(Value.int .i64 0),(Value.int .i64 0)]).1 (opNew h 26 #[(Value.int .i64 0),(Value.int .i64 0)]).2) (fun v h=>Q (.pan v) h)))) (fun v h=>Q (.pan v) h))
theorem X3_eq (t0:Value) (h:AH) (Q:RQ):X3 t0 h Q=wpC Tryd.prog L3 code3 (argA [t0] Tryd.f3.ntmps) h (retK Tryd.prog res3 Q):=by kernel_rfl
theorem X3_body:Tryd.f3.body=some code3:=by kernel_rfl
theorem X3_ok {t0:Value} {h:AH} {Q:RQ} (H:X3 t0 h Q):HC Tryd.prog 3 [t0].toArray h Q:=HC.body Tryd.func3 X3_body ((X3_eq t0 h Q).mp H)
noncomputable def code4:Code:=match Tryd.f4.body with | some c=>c | none=>.skip
noncomputable def res4:List ResultVar:=Tryd.f4.results.toList
def L4:Nat→Option (List Nat):=fun r=>none
noncomputable def X4 (h:AH) (Q:RQ):Prop :=
 let t0:Value:=(Value.bool false)
 HC Tryd.prog 5 (([]:List Value)++[(Value.string (ByteArray.mk #[109,97,112,32,123,32,101,109,105,116,32,118,97,108,117,101,44,32,34,49,34,59,32,125,32,114,101,100,117,99,101,32,123,32,101,109,105,116,32,107,101,121,44,32,116,101,120,116,40,99,111,117,110,116,40,118,97,108,117,101,115,41,41,59,32,125]))]++([]:List Value)).toArray h (resK (fun t6 h =>
 let t5:Value:=t6
 bq (opExtract t5 0) fun t7 =>
 bq (opExtract t5 1) fun t8 =>
 (fun t2 h =>
 let t1:Value:=t7
 bq (stN 2 h t2 t8) fun h=>(fun _ h =>
 HC Tryd.prog 5 (([]:List Value)++[(Value.string (ByteArray.mk #[109,97,112,32,123,32,101,109,105,116,32,120,44,32,107,101,121,59,32,125,32,114,101,100,117,99,101,32,123,32,125]))]++([]:List Value)).toArray h (resK (fun t10 h =>
 let t9:Value:=t10
 bq (opExtract t9 0) fun t11 =>
 bq (opExtract t9 1) fun t12 =>
 (fun t4 h =>
 let t3:Value:=t11
 bq (stN 2 h t4 t12) fun h=>(fun _ h =>
 bq (ldN 2 h t2) fun t13 =>
 bq (bd #[(Value.int .i64 0),(Value.int .i64 0)] []) fun t14 =>
 bq (binV Tryd.prog .eql 26 (.tmp 13) (.tmp 14) t13 t14 h) fun t15 =>
 let t16:Value:=t15
 guardQ t16 true h (fun k=>k t1 h) fun t17 h =>
 guardQ t16 true h (fun k=>bq (binV Tryd.prog .neq 23 (.tmp 17) (.const (Value.pointer none)) t17 (Value.pointer none) h) fun v=>k v h) fun t18 h =>
 bq (pickV t16 t18 (Value.bool false)) fun t19 =>
 let t20:Value:=t19
 guardQ t20 true h (fun k=>k t1 h) fun t21 h =>
 guardQ t20 true h (fun k=>bq (nilV Tryd.prog t21) fun v=>k v h) fun t22 h =>
 guardQ t20 true h (fun k=>bq (fa 0 1 t22) fun v=>k v h) fun t23 h =>
 guardQ t20 true h (fun k=>bq (ld1 h t23) fun v=>k v h) fun t24 h =>
 guardQ t20 true h (fun k=>bq (lenL t24) fun v=>k v h) fun t25 h =>
 guardQ t20 true h (fun k=>bq (binV Tryd.prog .eql 3 (.tmp 25) (.const (Value.int .i64 1)) t25 (Value.int .i64 1) h) fun v=>k v h) fun t26 h =>
 bq (pickV t20 t26 (Value.bool false)) fun t27 =>
 let t28:Value:=t27
 guardQ t28 true h (fun k=>bq (ldN 2 h t4) fun v=>k v h) fun t29 h =>
 guardQ t28 true h (fun k=>bq (bd #[(Value.int .i64 0),(Value.int .i64 0)] [(0,1,(Value.int .i64 162)),(1,1,(Value.int .i64 11))]) fun v=>k v h) fun t30 h =>
 guardQ t28 true h (fun k=>bq (binV Tryd.prog .eql 26 (.tmp 29) (.tmp 30) t29 t30 h) fun v=>k v h) fun t31 h =>
 bq (pickV t28 t31 (Value.bool false)) fun t32 =>
 let t0:Value:=t32
 Q (.ret t0) h) undef h) (opNew h 26 #[(Value.int .i64 0),(Value.int .i64 0)]).1 (opNew h 26 #[(Value.int .i64 0),(Value.int .i64 0)]).2) (fun v h=>Q (.pan v) h))) undef h) (opNew h 26 #[(Value.int .i64 0),(Value.int .i64 0)]).1 (opNew h 26 #[(Value.int .i64 0),(Value.int .i64 0)]).2) (fun v h=>Q (.pan v) h))
theorem X4_eq (h:AH) (Q:RQ):X4  h Q=wpC Tryd.prog L4 code4 (argA [] Tryd.f4.ntmps) h (retK Tryd.prog res4 Q):=by kernel_rfl
theorem X4_body:Tryd.f4.body=some code4:=by kernel_rfl
theorem X4_ok {h:AH} {Q:RQ} (H:X4  h Q):HC Tryd.prog 4 [].toArray h Q:=HC.body Tryd.func4 X4_body ((X4_eq  h Q).mp H)
noncomputable def code8:Code:=match Tryd.f8.body with | some c=>c | none=>.skip
noncomputable def res8:List ResultVar:=Tryd.f8.results.toList
def L8:Nat→Option (List Nat):=fun r=>if r=4 then some [2,3,5] else none
noncomputable def H8_4 (t2 t3 t5:Value) (h:AH) (Q:RQ):Prop:=HL Tryd.prog (cAt code8 [.r,.r,.l,.r,.i,.i]) (mkA 60 [(2,t2),(3,t3),(5,t5)]) h (ctxAt Tryd.prog L8 code8 [.r,.r,.l,.r,.i] (retK Tryd.prog res8 Q))
noncomputable def X8_4 (t2 t3 t5:Value) (h:AH) (Q:RQ):Prop :=
 let t41:Value:=t5
 bq (fa 4 1 t2) fun t42 =>
 bq (ld1 h t42) fun t43 =>
 bq (lenL t43) fun t44 =>
 bq (binV Tryd.prog .lss 3 (.tmp 41) (.tmp 44) t41 t44 h) fun t45 =>
 condP (some t45)
 (bq (fa 4 1 t2) fun t48 =>
 bq (ld1 h t48) fun t49 =>
 let t50:Value:=t5
 bq (ia 5 t49 t50) fun t51 =>
 bq (ldN 5 h t51) fun t52 =>
 bq (fa 4 1 t3) fun t53 =>
 bq (ld1 h t53) fun t54 =>
 let t55:Value:=t5
 bq (ia 5 t54 t55) fun t56 =>
 bq (ldN 5 h t56) fun t57 =>
 HC Tryd.prog 8 (([]:List Value)++[t52,t57]++([]:List Value)).toArray h (resK (fun t58 h =>
 (True) ∧
 bq (unV Tryd.prog .not t58) fun t59 =>
 condP (some t59)
 (let t4:Value:=(Value.bool false)
 Q (.ret t4) h)
 (let t46:Value:=t5
 bq (binV Tryd.prog .add 3 (.tmp 46) (.const (Value.int .i64 1)) t46 (Value.int .i64 1) h) fun t47 =>
 let t5:Value:=t47
 H8_4 t2 t3 t5 h Q)) (fun v h=>Q (.pan v) h)))
 (let t4:Value:=(Value.bool true)
 Q (.ret t4) h)
theorem X8_4_eq (t2 t3 t5:Value) (h:AH) (Q:RQ):X8_4 t2 t3 t5 h Q=wpC Tryd.prog L8 (cAt code8 [.r,.r,.l,.r,.i,.i]) (mkA 60 [(2,t2),(3,t3),(5,t5)]) h (ctxAt Tryd.prog L8 code8 [.r,.r,.l,.r,.i,.i] (retK Tryd.prog res8 Q)):=by kernel_rfl
theorem X8_4_ok {t2 t3 t5:Value} {h:AH} {Q:RQ} (H:X8_4 t2 t3 t5 h Q):H8_4 t2 t3 t5 h Q:=HL.step (L:=L8) ((X8_4_eq t2 t3 t5 h Q).mp H)
noncomputable def X8 (t0 t1:Value) (h:AH) (Q:RQ):Prop :=
 (fun t2 h =>
 (fun t3 h =>
 let t4:Value:=(Value.bool false)
 bq (fa 0 1 t2) fun t6 =>
 bq (ld1 h t6) fun t7 =>
 bq (fa 0 1 t3) fun t8 =>
 bq (ld1 h t8) fun t9 =>
 bq (binV Tryd.prog .neq 9 (.tmp 7) (.tmp 9) t7 t9 h) fun t10 =>
 let t11:Value:=t10
 guardQ t11 false h (fun k=>bq (fa 1 1 t2) fun v=>k v h) fun t12 h =>
 guardQ t11 false h (fun k=>bq (ld1 h t12) fun v=>k v h) fun t13 h =>
 guardQ t11 false h (fun k=>bq (fa 1 1 t3) fun v=>k v h) fun t14 h =>
 guardQ t11 false h (fun k=>bq (ld1 h t14) fun v=>k v h) fun t15 h =>
 guardQ t11 false h (fun k=>bq (binV Tryd.prog .neq 3 (.tmp 13) (.tmp 15) t13 t15 h) fun v=>k v h) fun t16 h =>
 bq (pickV t11 (Value.bool true) t16) fun t17 =>
 let t18:Value:=t17
 guardQ t18 false h (fun k=>bq (fa 2 1 t2) fun v=>k v h) fun t19 h =>
 guardQ t18 false h (fun k=>bq (ld1 h t19) fun v=>k v h) fun t20 h =>
 guardQ t18 false h (fun k=>bq (fa 2 1 t3) fun v=>k v h) fun t21 h =>
 guardQ t18 false h (fun k=>bq (ld1 h t21) fun v=>k v h) fun t22 h =>
 guardQ t18 false h (fun k=>bq (binV Tryd.prog .neq 3 (.tmp 20) (.tmp 22) t20 t22 h) fun v=>k v h) fun t23 h =>
 bq (pickV t18 (Value.bool true) t23) fun t24 =>
 let t25:Value:=t24
 guardQ t25 false h (fun k=>bq (fa 3 1 t2) fun v=>k v h) fun t26 h =>
 guardQ t25 false h (fun k=>bq (ld1 h t26) fun v=>k v h) fun t27 h =>
 guardQ t25 false h (fun k=>bq (fa 3 1 t3) fun v=>k v h) fun t28 h =>
 guardQ t25 false h (fun k=>bq (ld1 h t28) fun v=>k v h) fun t29 h =>
 guardQ t25 false h (fun k=>bq (binV Tryd.prog .neq 9 (.tmp 27) (.tmp 29) t27 t29 h) fun v=>k v h) fun t30 h =>
 bq (pickV t25 (Value.bool true) t30) fun t31 =>
 let t32:Value:=t31
 guardQ t32 false h (fun k=>bq (fa 4 1 t2) fun v=>k v h) fun t33 h =>
 guardQ t32 false h (fun k=>bq (ld1 h t33) fun v=>k v h) fun t34 h =>
 guardQ t32 false h (fun k=>bq (lenL t34) fun v=>k v h) fun t35 h =>
 guardQ t32 false h (fun k=>bq (fa 4 1 t3) fun v=>k v h) fun t36 h =>
 guardQ t32 false h (fun k=>bq (ld1 h t36) fun v=>k v h) fun t37 h =>
 guardQ t32 false h (fun k=>bq (lenL t37) fun v=>k v h) fun t38 h =>
 guardQ t32 false h (fun k=>bq (binV Tryd.prog .neq 3 (.tmp 35) (.tmp 38) t35 t38 h) fun v=>k v h) fun t39 h =>
 bq (pickV t32 (Value.bool true) t39) fun t40 =>
 condP (some t40)
 (let t4:Value:=(Value.bool false)
 Q (.ret t4) h)
 (let t5:Value:=(Value.int .i64 0)
 H8_4 t2 t3 t5 h Q)) (opNew h 32 t1.cells).1 (opNew h 32 t1.cells).2) (opNew h 41 t0.cells).1 (opNew h 41 t0.cells).2
theorem X8_eq (t0 t1:Value) (h:AH) (Q:RQ):X8 t0 t1 h Q=wpC Tryd.prog L8 code8 (argA [t0,t1] Tryd.f8.ntmps) h (retK Tryd.prog res8 Q):=by kernel_rfl
theorem X8_body:Tryd.f8.body=some code8:=by kernel_rfl
theorem X8_ok {t0 t1:Value} {h:AH} {Q:RQ} (H:X8 t0 t1 h Q):HC Tryd.prog 8 [t0,t1].toArray h Q:=HC.body Tryd.func8 X8_body ((X8_eq t0 t1 h Q).mp H)
end Go.Proofs.YtnaenhkldanjbaaDoor.X
end
