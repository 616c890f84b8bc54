import Derived.KernelRfl
import Derived.RangeFuncNested
import Derived.Test.YtgdnfoijhdpppaaDoorZ15
import Derived.Test.YtgdnfoijhdpppaaDoorZ16
set_option linter.unusedVariables false
set_option linter.unusedSimpArgs false
section
namespace Go.Ab
def rid:Code→Nat
 | .region id _ _=>id
 | .seq a b=>let n:=rid a;if n=1000000 then rid b else n
 | .cond _ a b=>let n:=rid a;if n=1000000 then rid b else n
 | .block _ a | .loop a | .scope a=>rid a
 | _=>1000000
def wpD (P:Program) (ops:Array Oper) (a:AA) (h:AH) (Q:HX→AA→AH→Prop):Prop :=
 ∃ call,CallOk P call∧∃ a₂ h₂,drawRun P call ops a h=some (a₂,h₂)∧Q .normal a₂ h₂
def keepL (L:Nat→Option (List Nat)) (r:Nat) (a:AA):AA:=match L r with
 | some l=>a.keep l
 | none=>a
def AA.toArr (a:AA):Array Value:=((List.range a.n).map fun t=>match a.get t with | some v=>knw v | none=>unk).toArray
def recOf (a:AA) (ps:Array Tmp) (x y:Code):Loop:={ state:=.ready,pending:=none,fn:=0,tmps:=a.toArr,params:=ps,assign:=x,body:=y,defers:=0 }
def hasBody (P:Program) (f:FuncId):Bool:=match P.funcs[f]? with
 | some fn=>!(fn.name == "runtime.NumGoroutine") && fn.body.isSome
 | none=>false
def jumpX (n r:Prop) (x g:Nat→Prop):Option Code→Prop
 | none=>n
 | some .ret=>r
 | some (.exit i)=>x i
 | some (.goto l)=>g l
 | _=>False
def jumpK (Q:HX→AA→AH→Prop) (a:AA) (h:AH) (j:Option Code):Prop:=jumpX (Q .normal a h) (Q .ret a h) (fun i=>Q (.exit i) a h) (fun l=>Q (.goto l) a h) j
def rangeK (k:Nat) (K:Option Code→AH→Prop) (pk:Value→AH→Prop):Res→AH→Prop
 | .ret _,h=>bq (loopAt h k) fun r=>r.1.state ≠ .busy∧K r.1.pending (h.put k none)
 | .pan v,h=>pk v h
def rangeQ (P:Program) (gv:Value) (r:Loop) (h:AH) (K:Option Code→AH→Prop) (pk:Value→AH→Prop):Prop:=match gv with
 | .func (.func f) first captured=>hasBody P f=true∧HC P f (first.toList++.chan (some h.size)::captured.toList).toArray (h.push (.loop r) none) (rangeK h.size K pk)
 | _=>False
def rndP (o:Option Nat) (h:AH):Prop:=match o with
 | none=>True
 | some k=>(loopAt h k).isSome=true
def rangeP (P:Program) (gv:Value) (ps:Array Tmp) (x y:Code) (ar a:AA) (h:AH) (Q:HX→AA→AH→Prop):Prop :=
 rndP a.rnd.loop h∧rangeQ P gv (recOf ar ps x y) h (fun j h=>jumpK Q a h j) fun v h=>Q (.panic v) a h
def condP (o:Option Value) (A B:Prop):Prop:=match o with
 | some (.bool b)=>if b then A else B
 | _=>False
def wpC (P:Program) (L:Nat→Option (List Nat)):Code→AA→AH→(HX→AA→AH→Prop)→Prop
 | .skip,a,h,Q=>Q .normal a h
 | .label _,a,h,Q=>Q .normal a h
 | .region _ ops draw,a,h,Q=>if draw then (if orderedY P ops then wpY P ops (cloB ops.toList []) (orderOf P ops) [] a h (fun a h=>Q .normal a h) (fun v h=>Q (.panic v) (a.less (dstsOf ops)) h) else if orderedB P ops then wpX P ops ops.toList a h (fun a h=>Q .normal a h) else if orderedZ P ops then wpZ P ops ops.toList a h [] (fun rs a' h'=>obligZ P ops rs h (pairsZ P ops)∧Q .normal a' h') else if orderedW P ops then wpW P ops a h (fun a h=>Q .normal a h) (fun v h=>Q (.panic v) (a.less (dstsOf ops)) h) else wpD P ops a h Q) else wpO P ops (List.range ops.size) a h Q
 | .seq x y,a,h,Q=>wpC P L x a h (seqK (fun a h=>wpC P L y (keepL L (rid y) a) h Q) Q)
 | .cond c x y,a,h,Q=>condP (a.opnd P c) (wpC P L x a h Q) (wpC P L y a h Q)
 | .block id x,a,h,Q=>wpC P L x a h (blockK id Q)
 | .loop x,a,h,Q=>HL P x (keepL L (rid x) a) h Q
 | .scope x,a,h,Q=>HS P x x (keepL L (rid x) a) h Q
 | .exit id,a,h,Q=>Q (.exit id) a h
 | .goto l,a,h,Q=>Q (.goto l) a h
 | .ret,a,h,Q=>Q .ret a h
 | .rangeFunc g ps x y,a,h,Q=>oq (a.opnd P g) fun gv=>rangeP P gv ps x y (keepL L (rid (.seq x y)) a) a h Q
 | _,_,_,_=>False
theorem RT.keepL {E:Ren} {a:AA} {t:Array Value} (h:RT E a t) (L:Nat→Option (List Nat)) (r:Nat):RT E (Ab.keepL L r a) t:=by
 unfold Ab.keepL
 split
 ·exact h.keep _
 ·exact h
theorem RX.keepL {B:Nat} {ro:Option Nat} {E:Ren} {w:World} {a:AA} {x:Act} (h:RX B ro E w a x) (L:Nat→Option (List Nat)) (r:Nat):RX B ro E w (Ab.keepL L r a) x:=by
 unfold Ab.keepL
 split
 ·exact h.keep _
 ·exact h
theorem trace_rnd {P:Program} {call:CallF} {ops:Array Oper}:∀ {l:List Oper} {a:AA} {h:AH} {rs:List Rec} {a₂:AA} {h₂:AH},trace P call ops l a h=some (rs,a₂,h₂)→a₂.rnd=a.rnd:=by
 intro l
 induction l with
 | nil=>intro a h rs a₂ h₂ hh;cases hh;rfl
 | cons o l ih =>
  intro a h rs a₂ h₂ hh
  simp only [trace] at hh
  split at hh
  ·split at hh
   ·rename_i ht
    cases hh
    rw [ih ht,AA.put_rnd]
   ·cases hh
  ·cases hh
theorem drawRun_rnd {P:Program} {call:CallF} {ops:Array Oper} {a a₂:AA} {h h₂:AH} (hd:drawRun P call ops a h=some (a₂,h₂)):a₂.rnd=a.rnd:=by
 unfold drawRun at hd
 split at hd
 case isFalse=>cases hd
 split at hd
 case h_2=>cases hd
 rename_i ht
 split at hd
 case isFalse=>cases hd
 cases hd
 exact trace_rnd ht
theorem RUA.toArr {E:Ren} {a:AA} {x:Array Value} (h:RT E a x):RUA E a.toArr x:=by
 refine ⟨by simp [AA.toArr,h.size],fun i v v' h1 h2=>?_⟩
 simp only [AA.toArr,List.getElem?_toArray,List.getElem?_map,Option.map_eq_some_iff] at h1
 obtain ⟨j,h3,h4⟩:=h1
 have hj:j=i:=by
  rw [List.getElem?_range (by have:=(List.getElem?_eq_some_iff.1 h3).1;simpa using this)] at h3
  exact (Option.some.inj h3).symm
 subst hj
 cases hg:a.get j with
 | none=>rw [hg] at h4;exact .inl h4.symm
 | some u =>
  rw [hg] at h4
  simp only at h4
  subst h4
  have:=h.get j u hg
  rw [Array.getD_eq_getD_getElem?,h2] at this
  exact RU.knw this
theorem rangeK_jump {P:Program} {Q:HX→AA→AH→Prop} {a:AA} {h:AH} {j:Option Code} {B:Nat} {ro:Option Nat} {E:Ren} {w₀:World} {E₀:Ren} {w:World} {x:Act} (hj:jumpK Q a h j) (r:RW P E h w) (xe:Ext E₀ w₀ E w) (rx:RX B ro E w a x) :
  match (generalizing:=false) j with
  | none=>HPost P B ro E₀ w₀ Q .normal x w
  | some c=>c.wpIn (Fr ro) 0 P (HPost P B ro E₀ w₀ Q) x w:=by
 unfold jumpK jumpX at hj
 split at hj
 ·exact ⟨.normal,a,h,E,trivial,r,xe,rx,hj⟩
 ·exact wpIn_ret ⟨.ret,a,h,E,trivial,r,xe,rx,hj⟩
 ·exact wpIn_exit ⟨.exit _,a,h,E,rfl,r,xe,rx,hj⟩
 ·exact wpIn_goto ⟨.goto _,a,h,E,rfl,r,xe,rx,hj⟩
 ·cases hj
theorem range_ok {P:Program} {g:Operand} {ps:Array Tmp} {assign body:Code} {a ar:AA} {h:AH} {Q:HX→AA→AH→Prop} {gv:Value} (hg:a.opnd P g=some gv) (hh:rangeP P gv ps assign body ar a h Q)
  (har:∀ E t,RT E a t→RT E ar t):HW P (.rangeFunc g ps assign body) a h Q:=by
 intro B ro E w x r rx
 obtain ⟨hrnd,hh⟩:=hh
 unfold rndP at hrnd
 unfold rangeQ at hh
 split at hh
 case h_2=>cases hh
 rename_i f first captured
 obtain ⟨hbd,hh⟩:=hh
 have hv:=rx.rt.opnd r g _ hg
 generalize hx:x.eval g=fv at hv
 cases hv with
 | func _ hf1 hc1 hf2 hc2 =>
  rename_i first' captured'
  refine wpIn_rangeFunc fun fn _=>?_
  -- the record is laid
  have lay:∃ (l:Nat) (mark:List Deferred) (w₁:World) (E₁:Ren),(Instr.enterLoop fn x.tmps ps assign body (Fr ro).round).run P w=.ok (l,mark) w₁ ∧
    RW P E₁ (h.push (.loop (recOf ar ps assign body)) none) w₁∧Ext E w E₁ w₁∧E₁.at_ h.size=some l∧XD B E₁ w₁ a.rnd.dfs (mark++x.defers):=by
   rw [Fr_round]
   cases ro with
   | none =>
    obtain ⟨r1,x1⟩:=r.beside (.deferred (some []))
    obtain ⟨r2,x2⟩:=r1.push (o:=.loop (recOf ar ps assign body)) (o':=.loop { state:=.ready,pending:=none,fn,tmps:=x.tmps,params:=ps,assign,body,defers:=w.heap.size }) none
     (.loop rfl rfl rfl rfl rfl (RUA.toArr (har E _ rx.rt)).1 fun i v v' a b=>((RUA.toArr (har E _ rx.rt)).2 i v v' a b).mono (Ren.le_add r1 _ _))
    refine ⟨_,_,_,_,run_enterLoop_outer fn x.tmps ps assign body,r2,x1.trans x2,by simp [Ren.add,World.size_alloc],?_⟩
    obtain ⟨h0,ns,h1,h2,h3⟩:=(rx.xd.ext x1).ext x2
    obtain ⟨_,ns',h1',_,h3'⟩:=rx.xd
    refine ⟨h0,w.heap.size::ns,.mark _ h1,List.nodup_cons.2 ⟨fun hm=>?_,h2⟩,fun n hn=>?_⟩
    ·have e:ns=ns':=h1.inj h1'
     rw [e] at hm
     have:=(Array.getElem?_eq_some_iff.1 (h3' _ hm).2.1).1
     omega
    ·rcases List.mem_cons.1 hn with rfl | hn
     ·refine ⟨rx.xd.1,?_,fun k hk=>?_⟩
      ·show ((w.alloc _).heap.push _)[_]?=_
       rw [Array.getElem?_push,if_neg (by rw [World.size_alloc];omega)]
       exact World.alloc_heap_new w _
      ·simp only [Ren.add,World.size_alloc] at hk
       split at hk
       ·have:=Option.some.inj hk;omega
       ·have:=(r.dom k _ hk).2;omega
     ·exact h3 n hn
   | some l₀ =>
    have hrd:=rx.rd
    cases hrk:a.rnd.loop with
    | none=>rw [hrk] at hrd;cases hrd
    | some k0 =>
     rw [hrk] at hrd hrnd
     obtain ⟨⟨r0,s0⟩,hr0⟩:=Option.isSome_iff_exists.1 hrnd
     obtain ⟨_,n0,r0',p1,p2,_⟩:=r.loopAt hr0
     rw [show E.at_ k0=some l₀ from hrd] at p1
     cases p1
     obtain ⟨r2,x2⟩:=r.push (o:=.loop (recOf ar ps assign body)) (o':=.loop { state:=.ready,pending:=none,fn,tmps:=x.tmps,params:=ps,assign,body,defers:=r0'.defers }) none
      (.loop rfl rfl rfl rfl rfl (RUA.toArr (har E _ rx.rt)).1 fun i v v' a b=>((RUA.toArr (har E _ rx.rt)).2 i v v' a b).mono (Ren.le_add r _ _))
     exact ⟨_,_,_,_,run_enterLoop_inner p2 fn x.tmps ps assign body,r2,x2,by simp [Ren.add],rx.xd.ext x2⟩
  obtain ⟨l,mark,w₁,E₁,hent,r₁,x₁,hat,hxd⟩:=lay
  have hra:RA E₁ (first.toList++.chan (some h.size)::captured.toList).toArray (first'++#[.func (.yield l) #[] #[]]++captured'):=by
   have e3:(first.toList++Value.chan (some h.size)::captured.toList).toArray=first++#[Value.chan (some h.size)]++captured:=Array.ext' (by simp)
   rw [e3]
   exact RA.append (RA.append (RA.mono x₁.le ⟨hf1,hf2⟩) (RA.one (.yld hat))) (RA.mono x₁.le ⟨hc1,hc2⟩)
  have henter:enterOf P f (first.toList++.chan (some h.size)::captured.toList) (h.push (.loop (recOf ar ps assign body)) none)=some (.enter f (first.toList++.chan (some h.size)::captured.toList).toArray (h.push (.loop (recOf ar ps assign body)) none)):=by
   unfold enterOf
   unfold hasBody at hbd
   split at hbd
   ·rename_i fn' hfn
    simp only [Bool.and_eq_true,Bool.not_eq_true'] at hbd
    simp only [hfn,hbd.1,Bool.false_eq_true,if_false]
    rw [if_neg]
    cases hb:fn'.body with
    | none=>rw [hb] at hbd;cases hbd.2
    | some _=>simp
   ·cases hbd
  obtain ⟨E₂,args₂,w₂,g1,g2,g3,g4⟩:=enterOf_ok r₁ henter hra
  refine ⟨l,mark,w₁,{ target:=.fn (.func f) captured',args:=first'++#[.func (.yield l) #[] #[]] },w₁,f,args₂,w₂,hent,?_,fun f' _=>Fr_fn ro f',?_,fun hd=>(by rw [Fr_depth] at hd;cases hd),callsIn ?_⟩
  ·have ec:x.eval (.const (.func (.yield l) #[] #[]))=.func (.yield l) #[] #[]:=rfl
   simp [resolve,rangeCall,hx,Deferred.ofValue,ec]
  ·simp only [invoke]
   exact g1
  ·refine (hh E₂ w₂ args₂ g2 g4).mono ?_
   rintro e w₃ ⟨E₃,res,h₃,q1,q2,q3,q4⟩
   have x3:Ext E w E₃ w₃:=x₁.trans (g3.trans q3)
   have hxd3:XD B E₃ w₃ a.rnd.dfs (mark++x.defers):=(hxd.ext g3).ext q3
   cases res with
   | ret v =>
    cases e with
    | returned v' =>
     obtain ⟨⟨rl,s⟩,hl,hst,hj⟩:=bq_eq q4
     simp only at hst hj
     obtain ⟨hg3,n3,rl',p1,p2,p3,p4,_⟩:=q2.loopAt hl
     have hn:n3=l:=by
      have:=(g3.trans q3).le.at_ _ _ hat
      rw [p1] at this
      exact Option.some.inj this
     subst hn
     obtain ⟨r4,x4⟩:=q2.loopPut hl p1 p2 .exhausted rl.pending
     have eb:({ rl' with state:=.exhausted,pending:=rl.pending }:Loop) = { rl' with state:=.exhausted }:=by rw [← p4]
     rw [eb] at r4 x4
     have r5:RW P E₃ (h₃.put h.size none) (w₃.putObj n3 (.loop { rl' with state:=.exhausted })):=r4.less (Nat.le_refl _) fun k y hk=>by
      rw [AH.get_put] at hk ⊢
      split at hk
      ·cases hk
      ·rename_i e;rw [if_neg e];exact hk
     refine ⟨_,_,run_endLoop p2 (by rw [p3];exact hst),?_⟩
     rw [← p4] at hj
     have rx5:RX B ro E₃ (w₃.putObj n3 (.loop { rl' with state:=.exhausted })) a { x with defers:=mark++x.defers } :=
      ⟨rx.rt.mono (x3.trans x4).le,rx.rd.mono (x3.trans x4).le,hxd3.ext x4⟩
     exact rangeK_jump hj r5 (x3.trans x4) rx5
    | _=>cases q1
   | pan v =>
    cases e with
    | panicked chain =>
     exact ⟨.panic v,a,h₃,E₃,q1,q2,x3,⟨rx.rt.mono x3.le,rx.rd.mono x3.le,hxd3⟩,q4⟩
    | _=>cases q1
theorem wpC_ok {P:Program} {L:Nat→Option (List Nat)}:∀ (c:Code) {a:AA} {h:AH} {Q:HX→AA→AH→Prop},wpC P L c a h Q→HW P c a h Q:=by
 intro c
 induction c with
 | skip=>intro a h Q hh B ro E w x r rx;exact wpIn_skip ⟨.normal,a,h,E,trivial,r,.refl E w,rx,hh⟩
 | label l=>intro a h Q hh B ro E w x r rx;exact wpIn_label ⟨.normal,a,h,E,trivial,r,.refl E w,rx,hh⟩
 | exit id=>intro a h Q hh B ro E w x r rx;exact wpIn_exit ⟨.exit id,a,h,E,rfl,r,.refl E w,rx,hh⟩
 | goto l=>intro a h Q hh B ro E w x r rx;exact wpIn_goto ⟨.goto l,a,h,E,rfl,r,.refl E w,rx,hh⟩
 | ret=>intro a h Q hh B ro E w x r rx;exact wpIn_ret ⟨.ret,a,h,E,trivial,r,.refl E w,rx,hh⟩
 | region id ops draw =>
  intro a h Q hh B ro E w x r rx
  cases draw with
  | false=>exact wpR_region (wpO_ok _ hh r (.refl E w) rx)
  | true =>
   simp only [wpC,if_true] at hh
   split at hh
   ·rename_i hoy
    exact draw_Y (Q:=fun a h=>Q .normal a h) (PK:=fun v h=>Q (.panic v) (a.less (dstsOf ops)) h) hoy hh r rx.rt rfl
     (fun a₂ h₂ E' w' y hq hr q1 q2 q3 q4=>⟨.normal,a₂,h₂,E',trivial,q1,q2,rx.next q2 q3 q4 hr,hq⟩)
     fun v v' h' E' w' y hq q1 q2 q3 q4 hv=>⟨.panic v,_,h',E',⟨v',rfl,hv⟩,q1,q2,rx.next q2 q3 q4 (AA.less_rnd _ _),hq⟩
   split at hh
   ·rename_i hob
    exact draw_ordered hob hh r rx.rt rfl fun a₂ h₂ E' w' y hq hr q1 q2 q3 q4=>⟨.normal,a₂,h₂,E',trivial,q1,q2,rx.next q2 q3 q4 hr,hq⟩
   split at hh
   ·rename_i hoz
    exact draw_Z (Q:=fun a h=>Q .normal a h) hoz hh r rx.rt rfl fun a₂ h₂ E' w' y hq hr q1 q2 q3 q4=>⟨.normal,a₂,h₂,E',trivial,q1,q2,rx.next q2 q3 q4 hr,hq⟩
   split at hh
   ·rename_i how
    exact draw_W (Q:=fun a h=>Q .normal a h) (PK:=fun v h=>Q (.panic v) (a.less (dstsOf ops)) h) how hh r rx.rt rfl
     (fun a₂ h₂ E' w' y hq hr q1 q2 q3 q4=>⟨.normal,a₂,h₂,E',trivial,q1,q2,rx.next q2 q3 q4 hr,hq⟩)
     fun v v' h' E' w' y hq q1 q2 q3 q4 hv=>⟨.panic v,_,h',E',⟨v',rfl,hv⟩,q1,q2,rx.next q2 q3 q4 (AA.less_rnd _ _),hq⟩
   obtain ⟨call,hc,a₂,h₂,hr,hq⟩:=hh
   exact drawRun_ok hc hr r rx.rt rfl fun E' w' y q1 q2 q3 q4=>⟨.normal,a₂,h₂,E',trivial,q1,q2,rx.next q2 q3 q4 (drawRun_rnd hr),hq⟩
 | seq p q ihp ihq =>
  intro a h Q hh B ro E w x r rx
  refine wpIn_seq (wpIn_mono (ihp hh B ro E w x r rx) ?_)
  rintro e y w' ⟨hx,a',h',E',h1,h2,h3,h4,h6⟩
  cases hx with
  | normal =>
   cases e with
   | normal=>exact wpIn_mono (ihq h6 B ro E' w' y h2 (h4.keepL L _)) fun e y w hp=>hp.ext h3
   | _=>cases h1
  | _ =>
   cases e <;> first
    | (cases h1;done)
    | exact ⟨_,a',h',E',h1,h2,h3,h4,h6⟩
 | cond c p q ihp ihq =>
  intro a h Q hh B ro E w x r rx
  simp only [wpC,condP] at hh
  split at hh
  ·rename_i b hb
   have hv:=rx.rt.opnd r c _ hb
   generalize hx:x.eval c=u at hv
   cases hv
   cases b with
   | true=>exact wpIn_cond_true hx (ihp (by simpa using hh) B ro E w x r rx)
   | false=>exact wpIn_cond_false hx (ihq (by simpa using hh) B ro E w x r rx)
  ·cases hh
 | block id p ihp =>
  intro a h Q hh B ro E w x r rx
  refine wpIn_block (wpIn_mono (ihp hh B ro E w x r rx) ?_)
  rintro e y w' ⟨hx,a',h',E',h1,h2,h3,h4,h6⟩
  cases hx with
  | exit i =>
   cases e with
   | exit j =>
    have h1':i=j:=h1
    subst h1'
    simp only [blockK] at h6
    simp only [Exit.inBlock]
    split at h6
    ·rename_i e;rw [if_pos e];exact ⟨.normal,a',h',E',trivial,h2,h3,h4,h6⟩
    ·rename_i e;rw [if_neg e];exact ⟨.exit i,a',h',E',rfl,h2,h3,h4,h6⟩
   | _=>cases h1
  | _ =>
   cases e <;> first
    | (cases h1;done)
    | exact ⟨_,a',h',E',h1,h2,h3,h4,h6⟩
 | loop p ihp =>
  intro a h Q hh B ro E w x r rx
  exact LoopW.wp (hh B ro E w x r (rx.keepL L _))
 | scope p ihp =>
  intro a h Q hh B ro E w x r rx
  exact ScopeW.wp (hh B ro E w x r (rx.keepL L _))
 | rangeFunc g ps p q ihp ihq =>
  intro a h Q hh
  obtain ⟨gv,hg,hh⟩:=oq_eq hh
  exact range_ok hg hh fun E t rt=>rt.keepL L _
 | _=>intro a h Q hh;cases hh
theorem HL.step {P:Program} {L:Nat→Option (List Nat)} {c:Code} {a:AA} {h:AH} {Q:HX→AA→AH→Prop} (hh:wpC P L c a h (seqK (fun a h=>HL P c (keepL L (rid c) a) h Q) Q)):HL P c a h Q:=by
 refine HL.round fun B ro E w x r rx=>wpIn_mono (wpC_ok c hh B ro E w x r rx) fun e y w' hp=>hp.mono fun e a h hq=>?_
 cases e with
 | normal =>
  intro B ro E w x r rx
  exact hq B ro E w x r (rx.keepL L _)
 | _=>exact hq
theorem HS.step {P:Program} {L:Nat→Option (List Nat)} {c d:Code} {a:AA} {h:AH} {Q:HX→AA→AH→Prop}
  (hh:wpC P L d a h (scopeK (fun l a h=>match findLabel c l with | some rest=>HS P c rest (keepL L (rid rest) a) h Q | none=>False) Q)):HS P c d a h Q:=by
 refine HS.run fun B ro E w x r rx=>wpIn_mono (wpC_ok d hh B ro E w x r rx) fun e y w' hp=>hp.mono fun e a h hq=>?_
 cases e with
 | goto l =>
  simp only [scopeK] at hq ⊢
  cases hf:findLabel c l with
  | none=>rw [hf] at hq;cases hq
  | some rest =>
   rw [hf] at hq
   intro B ro E w x r rx
   exact hq B ro E w x r (rx.keepL L _)
 | _=>exact hq
def retK (P:Program) (res:List ResultVar) (Q:Res→AH→Prop):HX→AA→AH→Prop
 | .normal,a,h | .ret,a,h=>bq (dAll P a.rnd.dfs h .ret) fun y=>leftK P res a Q y
 | .panic v,a,h=>bq (dAll P a.rnd.dfs h (.pan v)) fun y=>leftK P res a Q y
 | _,_,_=>False
def argA (args:List Value) (n:Nat):AA:=⟨tmsOf 0 args .leaf,args.length + (n - args.length),{}⟩
theorem HC.bodyW {P:Program} {f:FuncId} {fn:Func} {c:Code} {args:List Value} {h:AH} {Q:Res→AH→Prop} (hf:P.funcs[f]?=some fn) (hb:fn.body=some c)
  (hh:HW P c (argA args fn.ntmps) h (retK P fn.results.toList Q)):HC P f args.toArray h Q:=by
 intro E w args' r ra
 refine callsIn_wide.1 (callsIn_of_wp_marks (n:=0) hf hb trivial ?_)
 have hst:=RT.start ra fn.ntmps
 have e0:(⟨tmsOf 0 args.toArray.toList .leaf,args.toArray.size + (fn.ntmps - args.toArray.size),{}⟩:AA)=argA args fn.ntmps:=by simp [argA]
 rw [e0] at hst
 refine wpIn_mono (hh w.heap.size none E w _ r ⟨hst,trivial,XD.nil E w⟩) ?_
 rintro e y w' ⟨hx,a',h',E',h1,h2,h3,h4,h6⟩
 cases hx with
 | normal =>
  cases e with
  | normal =>
   obtain ⟨y',e1,hq⟩:=bq_eq h6
   exact leaves_ok _ e1 hq h2 h3 h4.xd rfl (by simp) h4.rt
  | _=>cases h1
 | ret =>
  cases e with
  | ret =>
   obtain ⟨y',e1,hq⟩:=bq_eq h6
   exact leaves_ok _ e1 hq h2 h3 h4.xd rfl (by simp) h4.rt
  | _=>cases h1
 | panic v =>
  cases e with
  | panic chain =>
   obtain ⟨y',e1,hq⟩:=bq_eq h6
   obtain ⟨v',hc,hv⟩:=h1
   exact leaves_ok _ e1 hq h2 h3 h4.xd ⟨v',by rw [hc],hv⟩ (by simp) h4.rt
  | _=>cases h1
 | _=>cases h6
theorem HC.body {P:Program} {L:Nat→Option (List Nat)} {f:FuncId} {fn:Func} {c:Code} {args:List Value} {h:AH} {Q:Res→AH→Prop} (hf:P.funcs[f]?=some fn) (hb:fn.body=some c)
  (hh:wpC P L c (argA args fn.ntmps) h (retK P fn.results.toList Q)):HC P f args.toArray h Q:=HC.bodyW hf hb (wpC_ok c hh)
end Go.Ab
end
section
namespace Go.Ab
def Gh (P:Program) (h:AH) (v:Value) (h':AH) (v':Value):Prop:=∀ E w u,RW P E h w→RV E v u→∃ E',RW P E' h' w∧Ext E w E' w∧RV E' v' u
theorem Gh.refl (P:Program) (h:AH) (v:Value):Gh P h v h v:=fun E w u r rv=>⟨E,r,.refl E w,rv⟩
theorem Gh.trans {P:Program} {h h' h'':AH} {v v' v'':Value} (a:Gh P h v h' v') (b:Gh P h' v' h'' v''):Gh P h v h'' v'':=fun E w u r rv=>by
 obtain ⟨E',r',x,rv'⟩:=a E w u r rv
 obtain ⟨E'',r'',x',rv''⟩:=b E' w u r' rv'
 exact ⟨E'',r'',x.trans x',rv''⟩
theorem rw_ice {P:Program} {E:Ren} {h:AH} {w:World} (r:RW P E h w) {k b:Nat} {c:Array Value} {e:TypeId} {s:Option Nat} (hk:h.get k=some (.cells c e (0,0),s)) (hat:E.at_ k=some b) :
  ∃ c',(∀ (i:Nat) v v',c[i]?=some v→c'[i]?=some v'→RV (E.still b c') v v')∧c'.size=c.size∧RW P (E.still b c') (h.put k (some (.cells c e (0,1),s))) w∧Ext E w (E.still b c') w:=by
 obtain ⟨cw,fz,g1,g2,g3,g4⟩:=r.cells hk hat
 have hnf:=r.unfro hk hat rfl
 have le:E.Le (E.still b (cw.extract 0 c.size)):=⟨fun _ _ h=>h,fun _ _ _=>rfl,fun _ _ h=>h,fun n d hd=>by
  simp only [Ren.still]
  rw [if_neg]
  ·exact hd
  ·rintro rfl;rw [hnf] at hd;cases hd⟩
 have hrel:∀ (i:Nat) v v',c[i]?=some v→cw[i]?=some v'→RV (E.still b (cw.extract 0 c.size)) v v':=fun i v v' h1 h2=>(g3 i v v' h1 h2).mono le
 have hsz:(cw.extract 0 c.size).size=c.size:=by simp;omega
 refine ⟨cw.extract 0 c.size,fun i v v' h1 h2=>?_,hsz,⟨r.glob,fun j n hj=>by simpa using r.dom j n hj,r.sdom,fun j o t hj=>?_,fun i j n hi hj gi gj=>?_,fun n d hd=>?_,fun j o t n hj hn hf=>?_,r.sep⟩,
  ⟨le,fun j n hj=>.inl ⟨j,hj⟩,Nat.le_refl _,fun _ _ _=>rfl,rfl,rfl,rfl,Nat.le_refl _,fun _ _=>rfl⟩⟩
 ·rw [Array.getElem?_extract] at h2
  split at h2
  ·rw [Nat.zero_add] at h2;exact hrel i v v' h1 h2
  ·cases h2
 ·rw [AH.get_put] at hj
  split at hj
  ·rename_i ej;subst ej;cases hj
   obtain ⟨n,o',p1,p2,p3,p4⟩:=r.live j _ s hk
   rw [hat] at p1;cases p1
   exact ⟨b,_,hat,g1,.ice g2 (fun hs=>r.exact hk hat g1 hs) hrel,p4⟩
  ·obtain ⟨n,o',p1,p2,p3,p4⟩:=r.live j o t hj
   exact ⟨n,o',p1,p2,p3.mono le,p4⟩
 ·refine r.inj i j n hi hj ?_ ?_
  ·rw [AH.get_put] at gi
   split at gi
   ·rename_i e;rw [e,hk];rfl
   ·exact gi
  ·rw [AH.get_put] at gj
   split at gj
   ·rename_i e;rw [e,hk];rfl
   ·exact gj
 ·simp only [Ren.still] at hd
  split at hd
  ·rename_i en;subst en;cases hd
   refine ⟨cw,e,fz,g1,by omega,fun i hi=>?_⟩
   rw [hsz] at hi
   rw [Array.getElem?_extract,if_pos (by omega),Nat.zero_add]
  ·exact r.frz n d hd
 ·rw [AH.get_put] at hj
  split at hj
  ·cases hj;rfl
  ·rename_i ej
   simp only [Ren.still] at hf
   split at hf
   ·rename_i en
    subst en
    exact absurd (r.inj j k n hn hat (by rw [hj];rfl) (by rw [hk];rfl)) ej
   ·exact r.icy j o t n hj hn hf
theorem Gh.slice {P:Program} {h:AH} {k off len cap z:Nat} {c:Array Value} {e:TypeId} {s:Option Nat} {l:List Value} (hk:h.get k=some (.cells c e (0,0),s)) (hz:0 < z) (hl:∀ v ∈ l,v.cells.size=z)
  (hlen:l.length=len) (hc:len ≤ cap) (hf:∀ (i:Nat) v,(flatC l)[i]?=some v→c[off + i]?=some v) (hn:off + len * z ≤ c.size) :
  Gh P h (.slice (some ⟨k,off,none⟩) len cap) (h.put k (some (.cells c e (0,1),s))) (VSl l):=by
 intro E w u r rv
 have go:∀ b cap',E.at_ k=some b→cap ≤ cap'→∃ E',RW P E' (h.put k (some (.cells c e (0,1),s))) w∧Ext E w E' w∧RV E' (VSl l) (.slice (some ⟨b,off,none⟩) len cap'):=by
  intro b cap' hat hcap
  obtain ⟨c',h1,h2,h3,h4⟩:=rw_ice r hk hat
  refine ⟨_,h3,h4,?_⟩
  have:=RV.vs (E:=E.still b c') (l:=l) (b':=b) (off:=off) (cap:=cap') (s:=z) (c:=c') (by simp [Ren.still]) hz hl (by rw [hlen,h2];exact hn) (by omega) fun i v v' hv hv'=>h1 _ v v' (hf i v hv) hv'
  rw [hlen] at this
  exact this
 cases rv with
 | slice hat hs=>exact go _ _ hat (Nat.le_refl _)
 | softSlice hat hs ho hcc hle=>exact go _ _ hat hle
 | stub hs =>
  have:l=[]:=List.eq_nil_of_length_eq_zero hlen
  subst this
  rename_i a' cap'
  obtain ⟨x,hx⟩:=Option.isSome_iff_exists.1 hs
  obtain ⟨b,hb⟩:=r.sdom k x hx
  obtain ⟨c',h1,h2,h3,h4⟩:=rw_ice r hk hb
  exact ⟨_,h3,h4,.vs0⟩
theorem HC.gh {P:Program} {f:FuncId} {pre post:List Value} {v v':Value} {h h':AH} {Q:Res→AH→Prop} (g:Gh P h v h' v') (hh:HC P f (pre++v'::post).toArray h' Q):HC P f (pre++v::post).toArray h Q:=by
 intro E w args' r ra
 have hsz:args'.size=pre.length + (post.length + 1):=by rw [← ra.1];simp
 have hv:RV E v (args'[pre.length]'(by omega)):=ra.2 pre.length v _ (by simp) (Array.getElem?_eq_getElem _)
 obtain ⟨E',r',x,rv'⟩:=g E w _ r hv
 have ra':RA E' (pre++v'::post).toArray args':=by
  refine ⟨by simp [hsz],fun i a b ha hb=>?_⟩
  by_cases e:i=pre.length
  ·subst e
   simp at ha
   subst ha
   rw [Array.getElem?_eq_getElem (by omega)] at hb
   cases hb
   exact rv'
  ·refine (ra.2 i a b ?_ hb).mono x.le
   simp only [List.getElem?_toArray] at ha ⊢
   rw [List.getElem?_append] at ha ⊢
   split
   ·rename_i hlt;rw [if_pos hlt] at ha;exact ha
   ·rename_i hge
    rw [if_neg hge] at ha
    obtain ⟨j,hj⟩:∃ j,i - pre.length=j + 1:=⟨i - pre.length - 1,by omega⟩
    rw [hj] at ha ⊢
    simpa using ha
 exact (hh E' w args' r' ra').mono fun e w' ⟨E'',res,h'',q1,q2,q3,q4⟩=>⟨E'',res,h'',q1,q2,x.trans q3,q4⟩
theorem HC.ghRes {P:Program} {f:FuncId} {args:Array Value} {h:AH} {Q:Res→AH→Prop} (hh:HC P f args h fun r h₁=>∃ v v' h₂,r=.ret v∧Gh P h₁ v h₂ v'∧Q (.ret v') h₂):HC P f args h Q :=
 fun E w args' r ra=>(hh E w args' r ra).mono fun e w' ⟨E',res,h₁,q1,q2,q3,v,v',h₂,e1,g,hq⟩=>by
  subst e1
  cases e with
  | returned u =>
   obtain ⟨E'',p1,p2,p3⟩:=g E' w' u q2 q1
   exact ⟨E'',.ret v',h₂,p3,p1,q3.trans p2,hq⟩
  | _=>cases q1
def Res.Below (n:Nat):Res→Prop
 | .ret v=>Ab.Below n v
 | .pan v=>Ab.Below n v
theorem HC.tidy {P:Program} {f:FuncId} {args:Array Value} {h:AH} {Q:Res→AH→Prop}
  (hh:HC P f args h fun r h₁=>∃ h₂,h₂.size=h.size∧(∀ k,k < h.size→∀ y,h₂.get k=some y→h₁.get k=some y∧(BelowO h.size y.1 ∨ h.get k=some y))∧(∀ k,h.size ≤ k→h₂.get k=none)∧r.Below h.size∧Q r h₂) :
  HC P f args h Q :=
 fun E w args' r ra=>(hh E w args' r ra).mono fun e w' ⟨E',res,h₁,q1,q2,q3,h₂,e1,e2,e3,e4,hq⟩=>by
  obtain ⟨p1,p2⟩:=r.cut q2 q3 e1 fun k y hk=>by
   by_cases hlt:k < h.size
   ·exact ⟨hlt,e2 k hlt y hk⟩
   ·rw [e3 k (by omega)] at hk;cases hk
  refine ⟨_,res,h₂,?_,p1,p2,hq⟩
  cases res with
  | ret v =>
   cases e with
   | returned u=>exact RV.cut q1 e4
   | _=>cases q1
  | pan v =>
   cases e with
   | panicked chain =>
    obtain ⟨u,hu,hv⟩:=q1
    exact ⟨u,hu,hv.cut e4⟩
   | _=>cases q1
theorem HC.pure {P:Program} {f:FuncId} {args:Array Value} {h:AH} {Q:Res→AH→Prop}
  (hh:HC P f args h fun r h₁=>(∀ k y,h.get k=some y→h₁.get k=some y)∧r.Below h.size∧Q r h):HC P f args h Q :=
 fun E w args' r ra=>(hh E w args' r ra).mono fun e w' ⟨E',res,h₁,q1,q2,q3,e2,e4,hq⟩=>by
  obtain ⟨p1,p2⟩:=r.cut q2 q3 (h₂:=h) rfl fun k y hk=>by
   obtain ⟨n,o',g1,_⟩:=r.live k y.1 y.2 hk
   exact ⟨(r.dom k n g1).1,e2 k y hk,.inr hk⟩
  refine ⟨_,res,h,?_,p1,p2,hq⟩
  cases res with
  | ret v =>
   cases e with
   | returned u=>exact RV.cut q1 e4
   | _=>cases q1
  | pan v =>
   cases e with
   | panicked chain =>
    obtain ⟨u,hu,hv⟩:=q1
    exact ⟨u,hu,hv.cut e4⟩
   | _=>cases q1
end Go.Ab
end
section
namespace Go.Ab
inductive Dir where
 | l | r | i
def cAt:Code→List Dir→Code
 | c,[]=>c
 | .seq a _,.l::p=>cAt a p
 | .seq _ b,.r::p=>cAt b p
 | .cond _ a _,.l::p=>cAt a p
 | .cond _ _ b,.r::p=>cAt b p
 | .block _ a,.i::p=>cAt a p
 | .loop a,.i::p=>cAt a p
 | .scope a,.i::p=>cAt a p
 | c,_=>c
def ctxAt (P:Program) (L:Nat→Option (List Nat)):Code→List Dir→(HX→AA→AH→Prop)→HX→AA→AH→Prop
 | _,[],Q=>Q
 | .seq a b,.l::p,Q=>ctxAt P L a p (seqK (fun a h=>wpC P L b (keepL L (rid b) a) h Q) Q)
 | .seq _ b,.r::p,Q=>ctxAt P L b p Q
 | .cond _ a _,.l::p,Q=>ctxAt P L a p Q
 | .cond _ _ b,.r::p,Q=>ctxAt P L b p Q
 | .block id a,.i::p,Q=>ctxAt P L a p (blockK id Q)
 | .loop c,.i::p,Q=>ctxAt P L c p (seqK (fun a h=>HL P c (keepL L (rid c) a) h Q) Q)
 | .scope c,.i::p,Q=>ctxAt P L c p (scopeK (fun l a h=>match findLabel c l with | some rest=>HS P c rest (keepL L (rid rest) a) h Q | none=>False) Q)
 | _,_,Q=>Q
def mkA (n:Nat):List (Nat × Value)→AA
 | []=>⟨.leaf,n,{}⟩
 | (t,v)::l=>⟨(mkA n l).tm.put (t + 1) (t + 1) (some v),n,{}⟩
def rbody:Code→Code
 | .rangeFunc _ _ _ y=>y
 | c=>c
def rasg:Code→Code
 | .rangeFunc _ _ x _=>x
 | c=>c
def rps:Code→Array Tmp
 | .rangeFunc _ ps _ _=>ps
 | _=>#[]
def roundW (P:Program) (L:Nat→Option (List Nat)) (r:Loop) (k:Nat) (args:List Value) (h:AH) (K:Value→AH→Prop):Prop :=
 wpC P L r.assign (roundA r k args) h (seqK (fun a h=>bq (loopAt h k) fun q=>q.1.state=.ready∧wpC P L r.body a (h.put k (some (.loop { q.1 with state:=.busy },q.2))) (roundK k K)) fun _ _ _=>False)
theorem roundP_of {P:Program} {L:Nat→Option (List Nat)} {r:Loop} {k:Nat} {args:List Value} {h:AH} {K:Value→AH→Prop} {s:Option Nat} (hl:loopAt h k=some (r,s)) (hlen:args.length=r.params.size)
  (hh:roundW P L r k args h K):roundP P k args h K:=by
 unfold roundP
 rw [hl]
 refine ⟨hlen,fun B ro E w x rw rx=>wpIn_mono (wpC_ok _ hh B ro E w x rw rx) fun e y w' hp=>hp.mono fun e a h hq=>?_⟩
 cases e with
 | normal =>
  obtain ⟨q,h1,h2,h3⟩:=bq_eq hq
  exact bq_of h1 ⟨h2,wpC_ok _ h3⟩
 | _=>exact hq
@[simp] theorem condP_true (A B:Prop):condP (some (.bool true)) A B=A:=propext (Iff.intro (fun h=>h) fun h=>h)
@[simp] theorem condP_false (A B:Prop):condP (some (.bool false)) A B=B:=propext (Iff.intro (fun h=>h) fun h=>h)
@[simp] theorem guardQ_true (h:AH) (op:(Value→AH→Prop)→Prop) (k:Value→AH→Prop):guardQ (.bool true) true h op k=op k:=propext (guardQ_iff.trans (by simp [guardI]))
@[simp] theorem guardQ_false (h:AH) (op:(Value→AH→Prop)→Prop) (k:Value→AH→Prop):guardQ (.bool false) true h op k=k undef h:=propext (guardQ_iff.trans (by simp [guardI]))
@[simp] theorem guardQ_true' (h:AH) (op:(Value→AH→Prop)→Prop) (k:Value→AH→Prop):guardQ (.bool true) false h op k=k undef h:=propext (guardQ_iff.trans (by simp [guardI]))
@[simp] theorem guardQ_false' (h:AH) (op:(Value→AH→Prop)→Prop) (k:Value→AH→Prop):guardQ (.bool false) false h op k=op k:=propext (guardQ_iff.trans (by simp [guardI]))
end Go.Ab
end
section
namespace Go.Ab
def ld1 (h:AH) (v:Value):Option Value:=match v with
 | .pointer (some a)=>(opCells h a 1).bind (·[0]?)
 | .func (.yield 1) _ d=>d[0]?
 | _=>none
def ldN (n:Nat) (h:AH) (v:Value):Option Value:=match v with
 | .pointer (some a)=>(opCells h a n).map .agg
 | .func (.yield 1) _ d=>if n ≤ d.size then some (.agg (d.extract 0 n)) else none
 | _=>none
def stN (n:Nat) (h:AH) (addr val:Value):Option AH:=match addr with
 | .pointer (some a)=>if val.cells.size=n then opSetCells h a val.cells else none
 | _=>none
def bdF:Array Value→List (Nat × Nat × Value)→Option (Array Value)
 | cells,[]=>some cells
 | cells,(off,size,v)::rest=>if v.cells.size ≠ size || off + v.cells.size > cells.size then none else bdF (setFrom cells off v.cells.toList) rest
def bd (z:Array Value) (parts:List (Nat × Nat × Value)):Option Value:=match bdF z parts with
 | some c=>some (.agg c)
 | none=>none
def bs (e:TypeId) (z:Array Value) (n:Nat) (h:AH) (parts:List (Nat × Nat × Value)):Option (Value × AH):=match bdF z parts with
 | some c=>some (.slice (some ⟨h.size,0,none⟩) n n,h.push (.cells c e (0,0)) none)
 | none=>none
def fd1 (off:Nat) (v:Value):Option Value:=match v with
 | .agg cs=>cs[off]?
 | _=>none
def fdN (off n:Nat) (v:Value):Option Value:=match v with
 | .agg cs=>some (.agg (cs.extract off (off + n)))
 | _=>none
def fa (off n:Nat) (v:Value):Option Value:=match v with
 | .pointer (some a)=>if a.spot.isSome then none else some (.pointer (some (a.add off)))
 | .func (.yield 1) _ d=>if off + n ≤ d.size then some (FPv (d.extract off (off + n))) else none
 | _=>none
def ia (n:Nat) (x ix:Value):Option Value:=match ix with
 | .int k i=>match x with
  | .slice (some a) len _=>if a.spot.isSome then none else if 0 ≤ i∧i < len then some (.pointer (some (a.add (i.toNat * n)))) else none
  | .func (.yield 0) _ l=>if 0 ≤ i then match l[i.toNat]? with
    | some v=>if v.cells.size=n then some (FPv v.cells) else none
    | none=>none
    else none
  | _=>none
 | _=>none
def iaA (len n:Nat) (x ix:Value):Option Value:=match ix with
 | .int k i=>match x with
  | .pointer (some a)=>if a.spot.isSome then none else if 0 ≤ i∧i < len then some (.pointer (some (a.add (i.toNat * n)))) else none
  | .func (.yield 1) _ c=>if 0 ≤ i∧i < len∧i.toNat * n + n ≤ c.size then some (FPv (c.extract (i.toNat * n) (i.toNat * n + n))) else none
  | _=>none
 | _=>none
def ixS (x ix:Value):Option Value:=match ix with
 | .int k i=>match x with
  | .string s=>if 0 ≤ i∧i.toNat < s.size then some (.int .u8 s[i.toNat]!.toNat) else none
  | _=>none
 | _=>none
def lenL (x:Value):Option Value:=match x with
 | .slice _ n _=>some (goInt n)
 | .func (.yield 0) _ l=>some (goInt l.size)
 | _=>none
def lenS (x:Value):Option Value:=match x with
 | .string s=>some (goInt s.size)
 | _=>none
def lenM (h:AH) (x:Value):Option Value:=match x with
 | .map none=>some (goInt 0)
 | .map (some r)=>match h.get r with
  | some (.map es _,_)=>some (goInt es.size)
  | _=>none
 | _=>none
def mi (t:TypeId) (x:Value):Option Value:=some (.iface t x)
def apT (e:TypeId) (size bytes:Nat) (zero:Option Value) (h:AH) (s x:Value):Option (Value × AH) :=
 match lenOf? x with
 | some n=>match opFirst h size n x,s with
  | some new,.slice base sLen sCap =>
   if new.size=n * size then
   if sLen + n ≤ sCap then
    match base with
    | none=>some (.slice none (sLen + n) sCap,h)
    | some a=>if n * size=0 then some (.slice base (sLen + n) sCap,h) else
     if a.spot.isSome then none else match opSetCells h (a.add (sLen * size)) new with
     | some h'=>some (.slice base (sLen + n) sCap,h')
     | none=>none
   else if 0 < size∧0 < bytes∧bytes < 2 ^ 30∧(sLen + n) * bytes < 2 ^ 40∧(zero.any fun z=>z.cells.size=size) then
    match opFirst h size sLen s with
    | some old=>if old.size=sLen * size then match base with
     | none=>some (.slice (some ⟨h.size,0,none⟩) (sLen + n) (sLen + n),h.push (.cells (old++new) e (0,0)) (some size))
     | some a=>match h.get a.block with
      | some (_,none)=>some (.slice (some ⟨h.size,0,none⟩) (sLen + n) (sLen + n),h.push (.cells (old++new) e (0,0)) (some size))
      | some (.cells _ e' fz,some z)=>if fz=(0,0)∧z=size∧e' = e∧a.off=0∧a.spot=none∧0 < sCap∧new.toList.all Value.oneCell' then
        some (.slice (some ⟨h.size,0,none⟩) (sLen + n) (sLen + n),(h.put a.block none).push (.cells (old++new) e (0,0)) (some size))
        else none
      | _=>none
     else none
    | none=>none
   else none
   else none
  | _,_=>none
 | _=>none
def rngE (h:AH) (m:Nat):Option (Obj × Option Nat)→Option (Value × AH)
 | some (.map _ clock,_)=>some (.pointer (some ⟨h.size,0,none⟩),h.push (.mapIter (some m) clock #[] clock) none)
 | _=>none
end Go.Ab
end
