import Derived.Test.YtibigfkeaemanaaGreatDoorZ13
set_option linter.unusedVariables false
set_option linter.unusedSimpArgs false
section
namespace Go.Ab
def seqO:List (Option Value)→Option (List Value)
 | []=>some []
 | x::l=>match x,seqO l with
  | some v,some vs=>some (v::vs)
  | _,_=>none
theorem seqO_nil:seqO []=some []:=Option.ext fun a=>Iff.intro (fun h=>h) fun h=>h
theorem seqO_cons {v:Value} {l:List (Option Value)}:seqO (some v::l)=(seqO l).bind fun vs=>some (v::vs):=by
 show (match some v,seqO l with | some v,some vs=>some (v::vs) | _,_=>none)=_
 cases seqO l <;> rfl
theorem oneOf_one {v:Value}:oneOf [v]=v:=by rw [oneOf]
theorem oneOf_two {v w:Value} {l:List Value}:oneOf (v::w::l)=.tuple (v::w::l).toArray:=by rw [oneOf];simp
def deferV (v:Value):Option Value:=match (some v:Option Value) with
 | some (.func (.func g) x y)=>some (.func (.func g) x y)
 | _=>none
theorem deferV_func {g:FuncId} {x y:Array Value}:deferV (.func (.func g) x y)=some (.func (.func g) x y):=Option.ext fun a=>Iff.intro (fun h=>h) fun h=>h
def resT (a:AA):ResultVar→Option Value
 | .tmp t=>a.get t
 | .cell c _=>a.get c
def resultsV (P:Program) (h:AH):List ResultVar→List (Option Value)→Option (List Value)
 | [],_=>some []
 | .tmp _::l,x::xs=>match x,resultsV P h l xs with
  | some v,some vs=>some (v::vs)
  | _,_=>none
 | .cell _ t::l,x::xs=>match x.bind (opLoad P h t),resultsV P h l xs with
  | some v,some vs=>some (v::vs)
  | _,_=>none
 | _::_,[]=>none
theorem resultsV_eq {P:Program} {a:AA} {h:AH}:∀ res:List ResultVar,resultsV P h res (res.map (resT a))=resultsOf P a h res:=by
 intro res
 induction res with
 | nil=>rfl
 | cons r l ih =>
  cases r with
  | tmp t=>rw [List.map_cons,resultsOf,← ih];rfl
  | cell c t=>rw [List.map_cons,resultsOf,← ih];rfl
def leftV (P:Program) (res:List ResultVar) (vals:List (Option Value)) (Q:Res→AH→Prop):AH→DM→Prop
 | h,.ret=>bq (resultsV P h res vals) fun vs=>Q (.ret (oneOf vs)) h
 | h,.pan v=>Q (.pan v) h
 | _,.recd _=>False
theorem leftV_ret {P:Program} {res:List ResultVar} {vals:List (Option Value)} {Q:Res→AH→Prop} {h:AH}:leftV P res vals Q h .ret=bq (resultsV P h res vals) fun vs=>Q (.ret (oneOf vs)) h:=propext (Iff.intro (fun h=>h) fun h=>h)
theorem leftV_pan {P:Program} {res:List ResultVar} {vals:List (Option Value)} {Q:Res→AH→Prop} {h:AH} {v:Value}:leftV P res vals Q h (.pan v)=Q (.pan v) h:=propext (Iff.intro (fun h=>h) fun h=>h)
def DC (P:Program) (f:FuncId) (args:List Value) (h:AH) (m:DM) (K:AH→DM→Prop):Prop :=
 (∃ fn c,P.funcs[f]?=some fn∧fn.body=some c∧(fn.name == "runtime.NumGoroutine")=false)∧∀ E w args' u,RW P E h w→RA E args.toArray args'→m.rel E u →
  CallsDIn Fence.wide 0 P f args' u w fun e u' w'=>∃ v' E' h' m',e=.returned v'∧RW P E' h' w'∧Ext E w E' w'∧m'.rel E' u'∧K h' m'
def dAllP (P:Program):List Value→AH→DM→(AH→DM→Prop)→Prop
 | [],h,m,K=>K h m
 | .func (.func f) first captured::l,h,m,K=>DC P f (first.toList++captured.toList) h m fun h' m'=>dAllP P l h' m'.settle K
 | _::_,_,_,_=>False
theorem dAllP_nil {P:Program} {h:AH} {m:DM} {K:AH→DM→Prop}:dAllP P [] h m K=K h m:=by rw [dAllP]
theorem dAllP_cons {P:Program} {f:FuncId} {x y:Array Value} {l:List Value} {h:AH} {m:DM} {K:AH→DM→Prop}:dAllP P (.func (.func f) x y::l) h m K=DC P f (x.toList++y.toList) h m fun h' m'=>dAllP P l h' m'.settle K:=by rw [dAllP]
theorem settle_ret:DM.ret.settle=.ret:=rfl
theorem settle_pan {v:Value}:(DM.pan v).settle=.pan v:=rfl
theorem settle_recd {v:Value}:(DM.recd v).settle=.ret:=rfl
def panD (P:Program) (res:List ResultVar) (Q:Res→AH→Prop) (D:List Value) (vals:List (Option Value)) (v:Value) (h:AH):Prop:=dAllP P D h (.pan v) (leftV P res vals Q)
def retV (P:Program) (res:List ResultVar) (Q:Res→AH→Prop) (D:List Value) (vals:List (Option Value)) (h:AH):Prop:=dAllP P D h .ret (leftV P res vals Q)
def retD (P:Program) (res:List ResultVar) (Q:Res→AH→Prop):HX→AA→AH→Prop
 | .normal,a,h | .ret,a,h=>retV P res Q a.rnd.dfs (res.map (resT a)) h
 | .panic v,a,h=>panD P res Q a.rnd.dfs (res.map (resT a)) v h
 | _,_,_=>False
theorem leaves_okP {P:Program} {fn:Func} {a:AA} {tmps:Array Value} {E₀:Ren} {w₀:World} {Q:Res→AH→Prop}:∀ (ds:List Deferred) {dfs:List Value} {E:Ren} {w:World} {h:AH} {m:DM} {u:FrameMode},
  dAllP P dfs h m (leftV P fn.results.toList (fn.results.toList.map (resT a)) Q)→RW P E h w→Ext E₀ w₀ E w→XD w₀.heap.size E w dfs ds→m.rel E u→(∀ v,m ≠ .recd v)→RT E a tmps →
  LeavesInM Fence.wide 0 P fn tmps (fun e w'=>∃ E' r h',Res.rel E' r e∧RW P E' h' w'∧Ext E₀ w₀ E' w'∧Q r h') ds u w:=by
 intro ds
 induction ds with
 | nil =>
  intro dfs E w h m u hy r x xd hm hnr rt
  obtain ⟨h0,ns,h1,h2,h3⟩:=xd
  cases h1
  rw [dAllP_nil] at hy
  cases m with
  | ret =>
   have hu:u=.returning:=hm
   subst hu
   have hy':bq (resultsV P h fn.results.toList (fn.results.toList.map (resT a))) fun vs=>Q (.ret (oneOf vs)) h:=hy
   rw [resultsV_eq] at hy'
   obtain ⟨vs,e1,hq⟩:=bq_eq hy'
   obtain ⟨v',g1,g2⟩:=results_run r rt e1
   exact ⟨v',g1,E,.ret (oneOf vs),h,g2,r,x,hq⟩
  | pan v =>
   obtain ⟨v',hu,hv⟩:=hm
   subst hu
   exact ⟨E,.pan v,h,⟨v',rfl,hv⟩,r,x,hy⟩
  | recd v=>exact absurd rfl (hnr v)
 | cons d ds ih =>
  intro dfs E w h m u hy r x xd hm hnr rt
  obtain ⟨h0,ns,h1,h2,h3⟩:=xd
  cases h1 with
  | mark n h1 =>
   rename_i ns
   obtain ⟨g1,g2,g3⟩:=h3 n (by simp)
   have hnf:E.fro n=none:=by
    cases hf:E.fro n with
    | none=>rfl
    | some c =>
     obtain ⟨_,_,_,q1,_⟩:=r.frz n c hf
     rw [g2] at q1;cases q1
   refine ⟨hm.ne,.inl ⟨n,_,rfl,run_takeDeferred g2,ih hy (r.asideFrom (.deferred none) g3 hnf) (x.aside (P:=P) (h:=h) _ g1 g3 hnf) ?_ hm hnr rt⟩⟩
   exact XD.aside h0 h1 (List.nodup_cons.1 h2).2 (fun m hm=>h3 m (List.mem_cons_of_mem _ hm)) (List.nodup_cons.1 h2).1 _
  | fn hv h1 =>
   rename_i dfs v f first cap
   unfold dAllP at hy
   split at hy
   ·rename_i hd;cases hd
   ·rename_i h m K f₀ first₀ cap₀ l₀ hd
    cases hd
    obtain ⟨⟨fn₀,c₀,hf₀,hb₀,hn₀⟩,hdc⟩:=hy
    cases hv with
    | func _ a1 a2 a3 a4 =>
     have hra:RA E (first₀.toList++cap₀.toList).toArray (first++cap):=by
      have e3:(first₀.toList++cap₀.toList).toArray=first₀++cap₀:=Array.ext' (by simp)
      rw [e3]
      exact RA.append ⟨a1,a3⟩ ⟨a2,a4⟩
     have henter:(invoke (.fn (.func f₀) cap) first).run P w=.ok (.enter f₀ (first++cap)) w:=by
      simp only [invoke]
      have:(callFunc f₀ (first++cap)).run P w=.ok (.enter f₀ (first++cap)) w:=by
       simp [callFunc,Sem.run_bind,hf₀,hb₀,(by simpa using hn₀:¬ fn₀.name = "runtime.NumGoroutine")]
      exact this
     refine ⟨hm.ne,.inr ⟨fun hd=>(by cases hd),.func f₀,cap,f₀,first++cap,rfl,henter,fun _ _=>trivial,?_⟩⟩
     refine (hdc E w _ u r hra hm).mono ?_
     rintro e u' w' ⟨v',E',h',m',rfl,q1,q2,q3,hy⟩
     obtain ⟨h0',ns',h1',h2',h3'⟩:=(XD.ext ⟨h0,ns,h1,h2,h3⟩ q2)
     refine ih hy q1 (x.trans q2) ⟨h0',ns',h1',h2',h3'⟩ q3.settle (fun v=>?_) (rt.mono q2.le)
     cases m' <;> simp [DM.settle]
   ·cases hy
theorem HC.bodyD {P:Program} {L:Nat→Option (List Nat)} {f:FuncId} {fn:Func} {c:Code} {args:List Value} {h:AH} {Q:Res→AH→Prop} (hf:P.funcs[f]?=some fn) (hb:fn.body=some c)
  (hh:wpC P L c (argA args fn.ntmps) h (retD P fn.results.toList Q)):HC P f args.toArray h Q:=by
 intro E w args' r ra
 refine callsIn_wide.1 (callsIn_of_wp_marks (n:=0) hf hb trivial ?_)
 have hst:=RT.start ra fn.ntmps
 have e0:(⟨tmsOf 0 args.toArray.toList .leaf,args.toArray.size + (fn.ntmps - args.toArray.size),{}⟩:AA)=argA args fn.ntmps:=by simp [argA]
 rw [e0] at hst
 refine wpIn_mono (wpC_ok c hh w.heap.size none E w _ r ⟨hst,trivial,XD.nil E w⟩) ?_
 rintro e y w' ⟨hx,a',h',E',h1,h2,h3,h4,h6⟩
 cases hx with
 | normal =>
  cases e with
  | normal=>exact leaves_okP _ h6 h2 h3 h4.xd rfl (by simp) h4.rt
  | _=>cases h1
 | ret =>
  cases e with
  | ret=>exact leaves_okP _ h6 h2 h3 h4.xd rfl (by simp) h4.rt
  | _=>cases h1
 | panic v =>
  cases e with
  | panic chain =>
   obtain ⟨v',hc,hv⟩:=h1
   exact leaves_okP _ h6 h2 h3 h4.xd ⟨v',by rw [hc],hv⟩ (by simp) h4.rt
  | _=>cases h1
 | _=>cases h6
def mkD (n:Nat) (D:List Value) (l:List (Nat × Value)):AA:=⟨(mkA n l).tm,n,⟨none,D⟩⟩
def lblY (c:Code) (l:Nat):Code:=match findLabel c l with
 | some (.seq .skip y)=>y
 | some r=>r
 | none=>.skip
theorem ScopeW.seq {ro:Option Nat} {P:Program} {c x y:Code} {Q:Exit→Act→World→Prop} {a:Act} {w:World} (h:x.wpR ro P (Exit.then (ScopeW ro P c y Q) (inScope ro P c Q)) a w):ScopeW ro P c (.seq x y) Q a w:=by
 intro b k cs hro
 obtain ⟨e,a₁,w₁,hq,harr⟩:=h b (.code y::.inScope c::k) cs hro (Fr_fn ro _) (Fr_room ro _)
 cases e with
 | normal =>
  obtain ⟨e₂,a₂,w₂,hq₂,harr₂⟩:=hq b k cs hro
  exact ⟨e₂,a₂,w₂,hq₂,.of_steps (StepsIn.trans (.one (fr_calm rfl) stepR_seq) harr) harr₂⟩
 | exit id =>
  have harr:ArrivesIn (Machine.fenced P (Fr ro)) P (lone (b.atR a (.code (.seq x y)::.inScope c::k)) cs w) b (.inScope c::k) cs (.exit id) a₁ w₁:=.of_steps (.one (fr_calm rfl) stepR_seq) (.pass (x:=.code y) rfl (fun _ _=>.inl (by simp)) harr)
  exact ⟨.exit id,a₁,w₁,hq,fun k' hk=>harr.1 k' (by simp [exitTo,hk]),fun hr hk=>by
   obtain ⟨k₁,g1,g2⟩:=harr.2 hr (by simp [exitTo,hk])
   exact ⟨k₁,g1,g2⟩⟩
 | goto l =>
  have harr:ArrivesIn (Machine.fenced P (Fr ro)) P (lone (b.atR a (.code (.seq x y)::.inScope c::k)) cs w) b (.inScope c::k) cs (.goto l) a₁ w₁:=.of_steps (.one (fr_calm rfl) stepR_seq) (.pass (x:=.code y) rfl (fun _ _=>.inl (by simp)) harr)
  obtain ⟨rest,hf,hs⟩:=hq
  obtain ⟨e₂,a₂,w₂,hq₂,harr₂⟩:=hs b k cs hro
  have hg:gotoIn l (.inScope c::k)=some (.code rest::.inScope c::k):=by simp [gotoIn,hf]
  exact ⟨e₂,a₂,w₂,hq₂,.of_steps (harr.1 _ hg) harr₂⟩
 | ret=>exact ⟨_,a₁,w₁,hq,.of_steps (.one (fr_calm rfl) stepR_seq) (.pass (x:=.code y) rfl (fun _ _=>.inl (by simp)) harr)⟩
 | panic ch=>exact ⟨_,a₁,w₁,hq,.of_steps (.one (fr_calm rfl) stepR_seq) (.pass (x:=.code y) rfl (fun _ _=>.inl (by simp)) harr)⟩
 | outgrown=>exact ⟨_,a₁,w₁,hq,.of_steps (.one (fr_calm rfl) stepR_seq) (.pass (x:=.code y) rfl (fun _ _=>.inl (by simp)) harr)⟩
def enterK (P:Program) (c y:Code) (Q:HX→AA→AH→Prop):HX→AA→AH→Prop
 | .normal,a,h=>HS P c y a h Q
 | .goto _,_,_=>False
 | e,a,h=>Q e a h
theorem HS.seq {P:Program} {c x y:Code} {a:AA} {h:AH} {Q:HX→AA→AH→Prop} (hh:HW P x a h (enterK P c y Q)):HS P c (.seq x y) a h Q:=by
 intro B ro E w z r rx
 refine ScopeW.seq (wpIn_mono (hh B ro E w z r rx) ?_)
 rintro e y w' ⟨hx,a',h',E',h1,h2,h3,h4,h6⟩
 cases hx with
 | normal =>
  cases e with
  | normal =>
   intro b k cs hro
   obtain ⟨e2,a2,w2,q2,arr⟩:=h6 B ro E' w' y h2 h4 b k cs hro
   exact ⟨e2,a2,w2,q2.ext h3,arr⟩
  | _=>cases h1
 | goto l=>cases h6
 | _ =>
  cases e <;> first
   | (cases h1;done)
   | exact ⟨_,a',h',E',h1,h2,h3,h4,h6⟩
theorem HW.skip {P:Program} {a:AA} {h:AH} {Q:HX→AA→AH→Prop} (hh:Q .normal a h):HW P .skip a h Q:=wpC_ok (L:=fun _=>none) .skip hh
theorem HS.lbl {P:Program} {c d:Code} {l:Nat} {a:AA} {h:AH} {Q:HX→AA→AH→Prop} (hf:findLabel c l=some (.seq .skip d)) (hh:HS P c d a h Q):HS P c (.seq .skip d) a h Q:=HS.seq (HW.skip hh)
def wpE (P:Program) (L:Nat→Option (List Nat)) (c:Code):Code→AA→AH→(HX→AA→AH→Prop)→Prop
 | .seq (.label l) y,a,h,Q=>HS P c y (keepL L (rid y) a) h Q
 | .seq x y,a,h,Q=>wpC P L x a h (fun e a h=>match e with
  | .normal=>wpE P L c y a h Q
  | .goto _=>False
  | e=>Q e a h)
 | _,_,_,_=>False
theorem HS.enter {P:Program} {L:Nat→Option (List Nat)} {c:Code}:∀ (d:Code) {a:AA} {h:AH} {Q:HX→AA→AH→Prop},wpE P L c d a h Q→HS P c d a h Q:=by
 intro d
 induction d with
 | seq x y _ ih =>
  intro a h Q hh
  have key:∀ {a:AA} {h:AH},wpC P L x a h (fun e a h=>match e with
    | .normal=>wpE P L c y a h Q
    | .goto _=>False
    | e=>Q e a h)→HS P c (.seq x y) a h Q:=fun hh=>HS.seq fun B ro E w z r rx=>wpIn_mono (wpC_ok x hh B ro E w z r rx) fun e y w' hp=>hp.mono fun e a h hq=>by
   cases e with
   | normal=>exact ih hq
   | goto l=>exact hq
   | _=>exact hq
  cases x with
  | label l =>
   have hh':HS P c y (keepL L (rid y) a) h Q:=hh
   exact HS.seq (wpC_ok (L:=L) (.label l) (show enterK P c y Q .normal a h from fun B ro E w z r rx=>hh' B ro E w z r (rx.keepL L _)))
  | _=>exact key hh
 | _=>intro a h Q hh;cases hh
def okP:Code→List Dir→Bool
 | .seq _ _,[]=>true
 | .seq a _,.l::p=>okP a p
 | .seq _ b,.r::p=>okP b p
 | .cond _ a _,.l::p=>okP a p
 | .cond _ _ b,.r::p=>okP b p
 | .block _ a,.i::p=>okP a p
 | .loop a,.i::p=>okP a p
 | .scope a,.i::p=>okP a p
 | _,_=>false
theorem join_eq {P:Program} {L:Nat→Option (List Nat)} {a:AA} {h:AH}:∀ {p:List Dir} {code:Code} {Q:HX→AA→AH→Prop},okP code p=true→keepL L (rid (cAt code (p++[.r]))) a=a →
  wpC P L (cAt code (p++[.r])) a h (ctxAt P L code (p++[.r]) Q)=ctxAt P L code (p++[.l]) Q .normal a h:=by
 intro p
 induction p with
 | nil =>
  intro code Q ho hk
  cases code with
  | seq x y =>
   have e1:cAt (.seq x y) ([]++[.r])=y:=by show cAt y []=y;cases y <;> rfl
   have e2:ctxAt P L (.seq x y) ([]++[.r]) Q=Q:=by show ctxAt P L y [] Q=Q;cases y <;> rfl
   have e3:ctxAt P L (.seq x y) ([]++[.l]) Q=seqK (fun a h=>wpC P L y (keepL L (rid y) a) h Q) Q:=by show ctxAt P L x [] _=_;cases x <;> rfl
   rw [e1] at hk ⊢
   rw [e2,e3]
   show _=wpC P L y (keepL L (rid y) a) h Q
   rw [hk]
  | _=>cases ho
 | cons d p ih =>
  intro code Q ho hk
  cases code with
  | seq x y=>cases d with
   | l=>exact ih (code:=x) ho hk
   | r=>exact ih (code:=y) ho hk
   | i=>cases ho
  | cond c x y=>cases d with
   | l=>exact ih (code:=x) ho hk
   | r=>exact ih (code:=y) ho hk
   | i=>cases ho
  | block i x=>cases d with
   | i=>exact ih (code:=x) ho hk
   | _=>cases ho
  | loop x=>cases d with
   | i=>exact ih (code:=x) ho hk
   | _=>cases ho
  | scope x=>cases d with
   | i=>exact ih (code:=x) ho hk
   | _=>cases ho
  | _=>cases ho
theorem flatV_cat {P:Program} {a b:ByteArray} (hs:a.size + b.size ≤ 9223372036854775807):flatV P (Op.stringOp .add a b)=some (.string (a++b)):=by
 have e:¬ (((a.size + b.size:Nat):Int) > IntKind.i64.max):=by
  have:IntKind.i64.max=9223372036854775807:=rfl
  omega
 unfold flatV Op.stringOp
 simp only
 rw [if_neg e]
 rfl
theorem bin_cat {P:Program} {t:TypeId} {x y:Operand} {a b:ByteArray} {h:AH} (hb:absBin P .add t x y (.string a) (.string b) h=valH h (flatV P (Op.stringOp .add a b))) (hs:a.size + b.size ≤ 9223372036854775807):binV P .add t x y (.string a) (.string b) h=some (.string (a++b)):=by
 unfold binV
 rw [hb,flatV_cat hs]
 rfl
theorem resK_ret {k pk:Value→AH→Prop} {v:Value} {h:AH}:resK k pk (.ret v) h=k v h:=propext (Iff.intro (fun h=>h) fun h=>h)
theorem resK_pan {k pk:Value→AH→Prop} {v:Value} {h:AH}:resK k pk (.pan v) h=pk v h:=propext (Iff.intro (fun h=>h) fun h=>h)
def wpMO (P:Program) (ops:Array Oper):List Nat→AA→AH→DM→(HX→AA→AH→DM→Prop)→Prop
 | [],a,h,m,Q=>Q .normal a h m
 | i::rest,a,h,m,Q=>match ops[i]? with
  | none=>False
  | some o=>match isRecover o.op,o.guard,m with
   | true,none,.pan v=>wpMO P ops rest (a.put o.dst v) h (.recd v) Q
   | true,none,m=>wpMO P ops rest (a.put o.dst .nilIface) h m Q
   | true,_,_=>False
   | false,_,m=>stepY P ops o a h (fun v h'=>wpMO P ops rest (a.put o.dst v) h' m Q) fun _ _=>False
def wpMC (P:Program):Code→AA→AH→DM→(HX→AA→AH→DM→Prop)→Prop
 | .skip,a,h,m,Q=>Q .normal a h m
 | .label _,a,h,m,Q=>Q .normal a h m
 | .region _ ops draw,a,h,m,Q=>if draw then (if orderedY P ops then wpY P ops (cloB ops.toList []) (orderOf P ops) [] a h (fun a h=>Q .normal a h m) (fun _ _=>False) else False) else wpMO P ops (List.range ops.size) a h m Q
 | .seq x y,a,h,m,Q=>wpMC P x a h m fun e a h m=>match e with
  | .normal=>wpMC P y a h m Q
  | e=>Q e a h m
 | .cond c x y,a,h,m,Q=>condP (a.opnd P c) (wpMC P x a h m Q) (wpMC P y a h m Q)
 | .ret,a,h,m,Q=>Q .ret a h m
 | _,_,_,_,_=>False
def plainD (o:Oper):Bool:=isRecover o.op || (plainY o && match o.op with
 | .call c=>match c.callee with
  | .builtin _=>true
  | _=>false
 | _=>true)
def plainDC:Code→Bool
 | .region _ ops _=>ops.toList.all plainD
 | .seq x y=>plainDC x && plainDC y
 | .cond _ x y=>plainDC x && plainDC y
 | _=>true
theorem absOp_noenter {P:Program} {ρ:Operand→Option Value} {o:Oper} {h g:AH} {f:FuncId} {args:Array Value} (hc:∀ c,o.op=.call c→∃ b,c.callee=.builtin b) (hop:absOp P ρ o h=some (.enter f args g)):False:=by
 have noVal:∀ {v:Option Value},valH h v=some (.enter f args g)→False:=fun e=>by obtain ⟨u,_,e⟩:=valH_eq e;cases e
 have noValP:∀ {v:Option (Value × AH)},valP v=some (.enter f args g)→False:=fun e=>by obtain ⟨u,g,_,e⟩:=valP_eq e;cases e
 unfold absOp at hop
 repeat' split at hop
 all_goals first
  | (cases hop;done)
  | (exact noVal hop)
  | (exact noValP hop)
  | skip
 ·unfold absBin at hop
  repeat' split at hop
  all_goals first
   | (cases hop;done)
   | (exact noVal hop)
 ·unfold absConvert at hop
  repeat' split at hop
  all_goals first
   | (cases hop;done)
   | (exact noVal hop)
 ·rename_i ho
  obtain ⟨b,hb⟩:=hc _ ho
  unfold absCall at hop
  rw [hb] at hop
  cases b <;> (simp only at hop;repeat' split at hop) <;> first
   | (cases hop;done)
   | (exact noVal hop)
   | (exact noValP hop)
theorem dOps_of {P:Program} {ops:Array Oper} (hp:ops.toList.all plainD=true) {Q:HX→AA→AH→DM→Prop}:∀ {l:List Nat} {a:AA} {h:AH} {m:DM},wpMO P ops l a h m Q→∃ a' h' m',dOps P ops l a h m=some (a',h',m')∧Q .normal a' h' m':=by
 intro l
 induction l with
 | nil=>intro a h m hh;exact ⟨a,h,m,rfl,hh⟩
 | cons i rest ih =>
  intro a h m hh
  unfold wpMO at hh
  unfold dOps
  cases ho:ops[i]? with
  | none=>rw [ho] at hh;cases hh
  | some o =>
   rw [ho] at hh
   have hpo:plainD o=true:=List.all_eq_true.1 hp o (List.mem_of_getElem? (by simpa using ho))
   cases hr:isRecover o.op with
   | true =>
    cases hg:o.guard with
    | none =>
     have hk:a.knows ops o=true:=by unfold AA.knows;rw [hg]
     have hw:Region.wanted o (a.yielded ops)=true:=by unfold Region.wanted;rw [hg]
     simp only [hr,hg] at hh
     simp only [hk,hw,if_true,hr]
     cases m with
     | pan v=>exact ih hh
     | ret=>exact ih hh
     | recd v=>exact ih hh
    | some g=>cases m <;> simp only [hr,hg] at hh
   | false =>
    have hh':stepY P ops o a h (fun v h'=>wpMO P ops rest (a.put o.dst v) h' m Q) fun _ _=>False:=by
     simp only [hr] at hh
     cases m <;> exact hh
    have hpl:plainY o=true∧∀ c,o.op=.call c→∃ b,c.callee=.builtin b:=by
     unfold plainD at hpo
     rw [hr,Bool.false_or,Bool.and_eq_true] at hpo
     refine ⟨hpo.1,fun c hc=>?_⟩
     have:=hpo.2
     rw [hc] at this
     simp only at this
     split at this
     ·rename_i b hb;exact ⟨b,hb⟩
     ·cases this
    obtain ⟨hk,hcs⟩:=stepY_cases hpl.1 hh'
    simp only [hk,if_true,hr,Bool.false_eq_true,if_false]
    rcases hcs with ⟨hw,hK⟩ | ⟨hw,out,habs,hout⟩
    ·simp only [hw,Bool.false_eq_true,if_false];exact ih hK
    ·simp only [hw,if_true,habs]
     cases out with
     | val v h'=>exact ih hout
     | unit h'=>exact ih hout
     | enter f args g=>exact absurd habs fun e=>absOp_noenter hpl.2 e
theorem wpSIn_mono {F:Fence} {n:Nat} {P:Program} {c:Code} {Q R:Exit→Act→List Frame→World→Prop} {a:Act} {cs:List Frame} {w:World} (h:c.wpSIn F n P Q a cs w) (hr:∀ e a cs w,Q e a cs w→R e a cs w):c.wpSIn F n P R a cs w:=by
 intro b k hk hro hf hroom
 obtain ⟨e,a',cs',w',hl,hq,harr⟩:=h b k hk hro hf hroom
 exact ⟨e,a',cs',w',hl,hr _ _ _ _ hq,harr⟩
def DPost (P:Program) (E:Ren) (w:World) (c0:Frame) (cs:List Frame) (Q:HX→AA→AH→DM→Prop) (e:Exit) (y:Act) (fs:List Frame) (w':World):Prop :=
 ∃ x a' h' m' E' u',((x=.normal∧e=.normal) ∨ (x=.ret∧e=.ret))∧fs = { c0 with mode:=u' }::cs∧RW P E' h' w'∧Ext E w E' w'∧RT E' a' y.tmps∧y.defers=[]∧m'.rel E' u'∧Q x a' h' m'
theorem wpMC_ok {P:Program}:∀ (c:Code) {Q:HX→AA→AH→DM→Prop} {a:AA} {h:AH} {m:DM},plainDC c=true→wpMC P c a h m Q→∀ {E:Ren} {w:World} {x:Act} {c0:Frame} {cs:List Frame},RW P E h w→RT E a x.tmps→x.defers=[]→m.rel E c0.mode →
  c.wpSIn Fence.wide 0 P (DPost P E w c0 cs Q) x (c0::cs) w:=by
 intro c
 induction c with
 | skip=>intro Q a h m _ hh E w x c0 cs r rt hd hm;exact wpSIn_of_wpIn rfl (wpIn_skip ⟨.normal,a,h,m,E,c0.mode,.inl ⟨rfl,rfl⟩,rfl,r,.refl E w,rt,hd,hm,hh⟩)
 | label l=>intro Q a h m _ hh E w x c0 cs r rt hd hm;exact wpSIn_of_wpIn rfl (wpIn_label ⟨.normal,a,h,m,E,c0.mode,.inl ⟨rfl,rfl⟩,rfl,r,.refl E w,rt,hd,hm,hh⟩)
 | ret=>intro Q a h m _ hh E w x c0 cs r rt hd hm;exact wpSIn_of_wpIn rfl (wpIn_ret ⟨.ret,a,h,m,E,c0.mode,.inr ⟨rfl,rfl⟩,rfl,r,.refl E w,rt,hd,hm,hh⟩)
 | region id ops draw =>
  intro Q a h m hp hh E w x c0 cs r rt hd hm
  cases draw with
  | true =>
   simp only [wpMC,if_true] at hh
   split at hh
   ·rename_i hoy
    refine wpSIn_of_wpIn rfl (show (Code.region id ops true).wpR none P _ x w from draw_Y (Q:=fun a h=>Q .normal a h m) (PK:=fun _ _=>False) hoy hh r rt hd (fun a₂ h₂ E' w' y hq hr q1 q2 q3 q4=>?_) fun v v' h' E' w' y hq _ _ _ _ _=>hq.elim)
    exact ⟨.normal,a₂,h₂,m,E',c0.mode,.inl ⟨rfl,rfl⟩,rfl,q1,q2,q3,q4,hm.mono q2.le,hq⟩
   ·cases hh
  | false =>
   obtain ⟨a',h',m',e,hq⟩:=dOps_of hp (by simpa [wpMC] using hh)
   exact wpSIn_region (dOps_ok _ e r rt hd hm fun E' w' y u' q1 q2 q3 q4 q5=>⟨.normal,a',h',m',E',u',.inl ⟨rfl,rfl⟩,rfl,q1,q2,q3,q4,q5,hq⟩)
 | seq p q ihp ihq =>
  intro Q a h m hp hh E w x c0 cs r rt hd hm
  simp only [plainDC,Bool.and_eq_true] at hp
  refine wpSIn_seq (wpSIn_mono (ihp hp.1 hh r rt hd hm) ?_)
  rintro e y fs w' ⟨hx,a',h',m',E',u',h1,rfl,h3,h4,h5,h6,h7,h8⟩
  rcases h1 with ⟨rfl,rfl⟩ | ⟨rfl,rfl⟩
  ·refine wpSIn_mono (ihq hp.2 h8 (c0:={ c0 with mode:=u' }) h3 h5 h6 h7) ?_
   rintro e y fs w'' ⟨hx,a2,h2,m2,E2,u2,g1,rfl,g3,g4,g5,g6,g7,g8⟩
   exact ⟨hx,a2,h2,m2,E2,u2,g1,rfl,g3,h4.trans g4,g5,g6,g7,g8⟩
  ·exact ⟨.ret,a',h',m',E',u',.inr ⟨rfl,rfl⟩,rfl,h3,h4,h5,h6,h7,h8⟩
 | cond c p q ihp ihq =>
  intro Q a h m hp hh E w x c0 cs r rt hd hm
  simp only [plainDC,Bool.and_eq_true] at hp
  simp only [wpMC,condP] at hh
  split at hh
  ·rename_i b hb
   have hv:=rt.opnd r c _ hb
   generalize hx:x.eval c=u at hv
   cases hv
   cases b with
   | true=>exact wpSIn_cond (t:=true) hx (ihp hp.1 (by simpa using hh) r rt hd hm)
   | false=>exact wpSIn_cond (t:=false) hx (ihq hp.2 (by simpa using hh) r rt hd hm)
  ·cases hh
 | _=>intro Q a h m _ hh;cases hh
def endDM (Q:AH→DM→Prop):HX→AA→AH→DM→Prop
 | .normal,_,h,m | .ret,_,h,m=>Q h m
 | _,_,_,_=>False
theorem DC.of_text {P:Program} {f:FuncId} {fn:Func} {c:Code} {args:List Value} {h:AH} {m:DM} {Q:AH→DM→Prop} (hf:P.funcs[f]?=some fn) (hn:(fn.name == "runtime.NumGoroutine")=false) (hb:fn.body=some c) (hr:fn.results.toList=[]) (hp:plainDC c=true)
  (hh:wpMC P c (argA args fn.ntmps) h m (endDM Q)):DC P f args h m Q:=by
 refine ⟨⟨fn,c,hf,hb,hn⟩,fun E w args' u r ra hm=>?_⟩
 refine callsDIn_of_wpSIn hf hb trivial fun c₀ cs hu=>?_
 have hst:=RT.start ra fn.ntmps
 have e0:(⟨tmsOf 0 args.toArray.toList .leaf,args.toArray.size + (fn.ntmps - args.toArray.size),{}⟩:AA)=argA args fn.ntmps:=by simp [argA]
 rw [e0] at hst
 refine wpSIn_mono (wpMC_ok c hp hh r hst rfl (by rw [hu];exact hm)) ?_
 rintro e y fs w' ⟨hx,a',h',m',E',u',h1,rfl,h3,h4,h5,h6,h7,h8⟩
 have hvs:resultsOf P a' h' fn.results.toList=some []:=by rw [hr];rfl
 obtain ⟨v',g1,g2⟩:=results_run h3 h5 hvs
 rcases h1 with ⟨rfl,rfl⟩ | ⟨rfl,rfl⟩
 ·exact ⟨h6,u',rfl,v',g1,v',E',h',m',rfl,h3,h4,h7,h8⟩
 ·exact ⟨h6,u',rfl,v',g1,v',E',h',m',rfl,h3,h4,h7,h8⟩
theorem guardQ_undef (h:AH) (w:Bool) (op:(Value→AH→Prop)→Prop) (k:Value→AH→Prop):guardQ undef w h op k=k undef h:=propext (guardQ_iff.trans (by simp [guardI,undef]))
abbrev RQ:=Res→AH→Prop
end Go.Ab
end
