import Derived.Test.YtgdnfoijhdpppaaDoorZ12
set_option linter.unusedVariables false
set_option linter.unusedSimpArgs false
section
namespace Go.Ab
inductive guardQ (x:Value) (want:Bool) (h:AH) (op:(Value→AH→Prop)→Prop) (k:Value→AH→Prop):Prop
 | yes (e:x=.bool want) (hk:op k):guardQ x want h op k
 | no (e:x ≠ .bool want) (hk:k undef h):guardQ x want h op k
def guardI (x:Value) (want:Bool) (h:AH) (op:(Value→AH→Prop)→Prop) (k:Value→AH→Prop):Prop :=
 match x with
 | .bool b=>if b=want then op k else k undef h
 | _=>k undef h
theorem guardQ_iff {x:Value} {want:Bool} {h:AH} {op:(Value→AH→Prop)→Prop} {k:Value→AH→Prop}:guardQ x want h op k ↔ guardI x want h op k:=by
 unfold guardI
 constructor
 ·intro g
  cases g with
  | yes e hk=>rw [e];simpa using hk
  | no e hk =>
   split
   ·rename_i b
    rw [if_neg (fun e2=>e (by rw [e2]))]
    exact hk
   ·exact hk
 ·intro g
  split at g
  ·rename_i b
   split at g
   ·rename_i e;exact .yes (by rw [e]) g
   ·rename_i e;exact .no (fun e2=>e (by simpa using e2)) g
  ·rename_i hne
   exact .no (fun e=>hne _ e) g
def isDefer:Op→Bool
 | .defer _=>true
 | _=>false
def deferOf (P:Program) (a:AA) (o:Oper):Option Value:=match o.op with
 | .defer c=>match c.callee with
  | .value f=>if c.args.isEmpty && a.rnd.loop.isNone then match a.opnd P f with
   | some (.func (.func g) x y)=>some (.func (.func g) x y)
   | _=>none
   else none
  | _=>none
 | _=>none
def AA.defer (a:AA) (v:Value):AA:=⟨a.tm,a.n,⟨a.rnd.loop,v::a.rnd.dfs⟩⟩
def wpO (P:Program) (ops:Array Oper):List Nat→AA→AH→(HX→AA→AH→Prop)→Prop
 | [],a,h,Q=>Q .normal a h
 | i::rest,a,h,Q =>
  match ops[i]? with
  | none=>wpO P ops rest a h Q
  | some o=>match o.guard with
   | none=>if isDefer o.op then bq (deferOf P a o) fun v=>wpO P ops rest ((a.defer v).put o.dst undef) h Q
    else wpOp P (a.opnd P) o h (fun v h'=>wpO P ops rest (a.put o.dst v) h' Q) (fun v h'=>Q (.panic v) a h')
   | some (j,want)=>match (ops[j]?).bind (·.dst) with
    | some d=>if d < a.n then oq (a.get d) fun x =>
      guardQ x want h (fun k=>wpOp P (a.opnd P) o h k fun v h'=>Q (.panic v) a h') (fun v h'=>wpO P ops rest (a.put o.dst v) h' Q)
     else wpO P ops rest (a.put o.dst undef) h Q
    | none=>wpO P ops rest (a.put o.dst undef) h Q
theorem tmsU_get:∀ (l:List Value) (k:Nat) (t:T Value) (i:Nat) (v:Value),(tmsU k l t).get (i + 1)=some v→(∃ j u,i=k + j∧l[j]?=some u∧unknw u=some v) ∨ t.get (i + 1)=some v:=by
 intro l
 induction l with
 | nil=>intro k t i v h;exact .inr h
 | cons u l ih =>
  intro k t i v h
  rw [tmsU] at h
  rcases ih (k + 1) _ i v h with ⟨j,u',h1,h2,h3⟩ | h
  ·exact .inl ⟨j + 1,u',by omega,by simpa using h2,h3⟩
  ·split at h
   ·rename_i x hx
    rw [T.get_put _ _ _ _ _ (by omega) (Nat.le_refl _) (by omega)] at h
    split at h
    ·rename_i e
     cases h
     exact .inl ⟨0,u,by omega,by simp,hx⟩
    ·exact .inr h
   ·exact .inr h
theorem RU.of {E:Ren} {v v' u:Value} (h:RU E v v') (hu:unknw v=some u):RV E u v':=by
 rcases h with rfl | h
 ·cases hu
 ·cases h with
  | tuple hn hh=>exact hh 0 u v' hu rfl
theorem RU.knw {E:Ren} {v v':Value} (h:RV E v v'):RU E (Ab.knw v) v':=.inr (.tuple rfl fun i a b ha hb=>by
 match i with
 | 0=>simp at ha hb;subst ha hb;exact h
 | _ + 1=>simp at ha)
def RUA (E:Ren) (c c':Array Value):Prop:=c.size=c'.size∧∀ (i:Nat) v v',c[i]?=some v→c'[i]?=some v'→RU E v v'
theorem RUA.set {E:Ren} {c c':Array Value} (h:RUA E c c') (i:Nat) {v v':Value} (hv:RU E v v'):RUA E (c.setIfInBounds i v) (c'.setIfInBounds i v'):=by
 refine ⟨by simp [h.1],fun k a b ha hb=>?_⟩
 rw [Array.getElem?_setIfInBounds] at ha hb
 rw [← h.1] at hb
 split at ha
 ·rename_i e
  rw [if_pos e] at hb
  split at ha
  ·rename_i e'
   rw [if_pos e'] at hb
   cases ha;cases hb;exact hv
  ·cases ha
 ·rename_i e
  rw [if_neg e] at hb
  exact h.2 _ a b ha hb
theorem RUA.fold {E:Ren} {ps:List Tmp}:∀ {l l':List Value} {c c':Array Value},RUA E c c'→l.length=l'.length→(∀ (i:Nat) v v',l[i]?=some v→l'[i]?=some v'→RU E v v') →
  RUA E ((ps.zip l).foldl (fun t (p,v)=>t.setIfInBounds p v) c) ((ps.zip l').foldl (fun t (p,v)=>t.setIfInBounds p v) c'):=by
 induction ps with
 | nil=>intro l l' c c' h _ _;simpa using h
 | cons p ps ih =>
  intro l l' c c' h hs hv
  cases l with
  | nil =>
   cases l' with
   | nil=>simpa using h
   | cons _ _=>cases hs
  | cons v l =>
   cases l' with
   | nil=>cases hs
   | cons v' l' =>
    simp only [List.zip_cons_cons,List.foldl_cons]
    exact ih (h.set p (hv 0 v v' rfl rfl)) (by simpa using hs) fun i a b ha hb=>hv (i + 1) a b (by simpa using ha) (by simpa using hb)
theorem zip_foldl {ps:Array Tmp} {l:Array Value} (c:Array Value):(ps.zip l).foldl (fun t (p,v)=>t.setIfInBounds p v) c=(ps.toList.zip l.toList).foldl (fun t (p,v)=>t.setIfInBounds p v) c:=by
 rw [← Array.foldl_toList,Array.toList_zip]
theorem RW.loopAt {P:Program} {E:Ren} {h:AH} {w:World} (r:RW P E h w) {k:Nat} {l:Loop} {s:Option Nat} (hk:Ab.loopAt h k=some (l,s)) :
  h.get k=some (.loop l,s)∧∃ n l',E.at_ k=some n∧w.heap[n]?=some (.loop l')∧l'.state=l.state∧l'.pending=l.pending∧l'.params=l.params∧l'.assign=l.assign∧l'.body=l.body∧RUA E l.tmps l'.tmps:=by
 unfold Ab.loopAt at hk
 split at hk
 ·rename_i l0 s0 hg
  cases hk
  obtain ⟨n,o',g1,g2,g3,g4⟩:=r.live k _ _ hg
  cases g3 with
  | loop h1 h2 h3 h4 h5 hn h=>exact ⟨hg,n,_,g1,g2,h1,h2,h3,h4,h5,hn,h⟩
 ·cases hk
theorem RW.loopPut {P:Program} {E:Ren} {h:AH} {w:World} (r:RW P E h w) {k n:Nat} {l l':Loop} {s:Option Nat} (hk:Ab.loopAt h k=some (l,s)) (hat:E.at_ k=some n) (hw:w.heap[n]?=some (.loop l')) (st:LoopState) (pe:Option Code) :
  RW P E (h.put k (some (.loop { l with state:=st,pending:=pe },s))) (w.putObj n (.loop { l' with state:=st,pending:=pe }))∧Ext E w E (w.putObj n (.loop { l' with state:=st,pending:=pe })):=by
 obtain ⟨hg,n',l2,g1,g2,h1,h2,h3,h4,h5,hn,ht⟩:=r.loopAt hk
 rw [hat] at g1;cases g1
 rw [hw] at g2;cases g2
 exact r.put hg rfl hat (.loop rfl rfl h3 h4 h5 hn ht)
theorem RT.round {E:Ren} {r:Loop} {tmps':Array Value} {k:Nat} {args:List Value} {args':Array Value} (h:RUA E r.tmps tmps') (ha:RA E args.toArray args') :
  RT E (roundA r k args) ((r.params.zip args').foldl (fun t (p,v)=>t.setIfInBounds p v) tmps'):=by
 have hl:RUA E ((r.params.zip (args.map knw).toArray).foldl (fun t (p,v)=>t.setIfInBounds p v) r.tmps) ((r.params.zip args').foldl (fun t (p,v)=>t.setIfInBounds p v) tmps'):=by
  rw [zip_foldl,zip_foldl]
  refine RUA.fold h (by simpa using ha.1) fun i v v' h1 h2=>?_
  simp only [List.getElem?_map,Option.map_eq_some_iff] at h1
  obtain ⟨u,hu,rfl⟩:=h1
  exact RU.knw (ha.2 i u v' (by simpa using hu) (by simpa using h2))
 refine ⟨hl.1.symm,fun t v hv=>?_⟩
 unfold roundA AA.get at hv
 simp only at hv
 rcases tmsU_get _ _ _ _ _ hv with ⟨j,u,h1,h2,h3⟩ | h1
 ·have e:t=j:=by omega
  subst e
  rw [Array.getElem?_toList] at h2
  rw [Array.getD_eq_getD_getElem?]
  have hlt:=(Array.getElem?_eq_some_iff.1 h2).1
  have hlt':=hlt
  rw [hl.1] at hlt'
  rw [Array.getElem?_eq_getElem hlt']
  exact (hl.2 t u _ h2 (Array.getElem?_eq_getElem hlt')).of h3
 ·simp [T.get] at h1
theorem round_wp {P:Program} {o:Oper} {c:Call} {f:Operand} {a:AA} {h:AH} {B:Nat} {ro:Option Nat} {E:Ren} {w:World} {x:Act} {K:Act→World→Prop} {k:Value→AH→Prop} {W:Exit→Act→World→Prop} {key:Nat} {args:List Value}
  (r:RW P E h w) (rx:RX B ro E w a x) (ho:o.op=.call c) (hc:c.callee=.value f) (hf:a.opnd P f=some (.chan (some key))) (ha:listOf (a.opnd P) c.args.toList=some args)
  (hk:∀ v h' E' w' z,k v h'→RW P E' h' w'→Ext E w E' w'→RX B ro E' w' (a.put o.dst v) z→K z w')
  (hh:roundP P key args h k):o.wpR ro P x w K W:=by
 have hput:∀ (d:Option Tmp) (v:Value),(x.put d v).defers=x.defers:=fun d v=>by cases d <;> rfl
 obtain ⟨⟨l,s⟩,hl,hlen,hh⟩:=bq_eq hh
 simp only at hlen hh
 obtain ⟨hg,n,l',g1,g2,h1,h2,h3,h4,h5,ht⟩:=r.loopAt hl
 have hv:=rx.rt.opnd r f _ hf
 have hra:RA E args.toArray (c.args.map x.eval):=by
  have:=listOf_ok (rx.rt.opnd r) ha
  rwa [show (c.args.toList.map x.eval).toArray=c.args.map x.eval by rw [← Array.toList_map,Array.toArray_toList]] at this
 have hnd:∀ d,o.op ≠ .defer d:=fun d e=>by rw [ho] at e;cases e
 have hsz:(c.args.map x.eval).size=l'.params.size:=by rw [h3,← hlen,← hra.1];simp
 generalize hx:x.eval f=fv at hv
 cases hv with
 | yld hat =>
  rename_i n'
  rw [g1] at hat;cases hat
  have hrun:(execOp x.eval o).run P w=.ok (.round n l'.fn ((l'.params.zip (c.args.map x.eval)).foldl (fun tmps (t,a)=>tmps.setIfInBounds t a) l'.tmps) l'.assign l'.body) w:=by
   unfold execOp
   rw [ho]
   simp only [resolve,hc,hx,Deferred.ofValue,Sem.run_bind,Sem.run_pure,Result.andThen_ok,invoke]
   have:=run_yield (P:=P) (args:=c.args.map x.eval) g2 hsz
   simpa using this
  refine wpR_round hnd hrun ?_
  rw [h3,h4,h5]
  refine roundIn_of_wpIn (Fr_fn ro _) ?_
  rw [Fr_inRound]
  have rxr:RX w.heap.size (some n) E w (roundA l key args) { tmps:=(l.params.zip (c.args.map x.eval)).foldl (fun tmps (t,a)=>tmps.setIfInBounds t a) l'.tmps,defers:=[] } :=
   ⟨RT.round ht hra,g1,XD.nil E w⟩
  refine wpIn_mono (hh w.heap.size (some n) E w _ r rxr) ?_
  rintro e y w1 ⟨hx1,a1,h1',E1,q1,q2,q3,q4,q5⟩
  cases hx1 with
  | normal =>
   cases e with
   | normal =>
    obtain ⟨⟨l1,s1⟩,hl1,hst,hbody⟩:=bq_eq q5
    simp only at hst hbody
    obtain ⟨hg1,n1,l1',p1,p2,p3,p4,p5,p6,p7,p8⟩:=q2.loopAt hl1
    have hn1:n1=n:=by
     have:=q3.le.at_ key n g1
     rw [p1] at this
     exact Option.some.inj this
    subst hn1
    refine ⟨_,run_beginRound p2 (by rw [p3];exact hst),?_⟩
    obtain ⟨rb,xb⟩:=q2.loopPut hl1 p1 p2 .busy l1.pending
    have eb:({ l1' with state:=.busy,pending:=l1.pending }:Loop) = { l1' with state:=.busy }:=by rw [← p4]
    rw [eb] at rb xb
    have rxb:RX w.heap.size (some n1) E1 (w1.putObj n1 (.loop { l1' with state:=.busy })) a1 y:=q4.next xb q4.rt rfl rfl
    refine wpIn_mono (hbody w.heap.size (some n1) E1 _ y rb rxb) ?_
    rintro e2 y2 w2 ⟨hx2,a2,h2',E2,u1,u2,u3,u4,u5⟩
    have fin:∀ j:Option Code,endRd k key j h2'→∃ v w',(Instr.endRound n1 j).run P w2=.ok v w'∧K (x.put o.dst v) w':=by
     intro j hj
     obtain ⟨⟨l2,s2⟩,hl2,hkk⟩:=bq_eq hj
     obtain ⟨_,n2,l2',v1,v2,v3,v4,v5,v6,v7,v8⟩:=u2.loopAt hl2
     have hn2:n2=n1:=by
      have:=u3.le.at_ key n1 p1
      rw [v1] at this
      exact Option.some.inj this
     subst hn2
     obtain ⟨re,xe⟩:=u2.loopPut hl2 v1 v2 (if j.isNone then .ready else .done) j
     have xall:Ext E w E2 (w2.putObj n2 (.loop { l2' with state:=if j.isNone then .ready else .done,pending:=j })):=q3.trans (xb.trans (u3.trans xe))
     refine ⟨_,_,run_endRound j v2,hk _ _ E2 _ _ hkk re xall ?_⟩
     exact rx.next xall ((rx.rt.mono xall.le).put o.dst (.bool _)) (hput _ _) (AA.put_rnd _ _ _)
    cases hx2 with
    | normal=>cases e2 with
     | normal=>exact fin none u5
     | _=>cases u1
    | ret=>cases e2 with
     | ret=>exact fin (some .ret) u5
     | _=>cases u1
    | exit i=>cases e2 with
     | exit j=>have:i=j:=u1
               subst this
               exact fin (some (.exit i)) u5
     | _=>cases u1
    | goto i=>cases e2 with
     | goto j=>have:i=j:=u1
               subst this
               exact fin (some (.goto i)) u5
     | _=>cases u1
    | panic v=>cases u5
   | _=>cases q1
  | _=>cases q5
theorem hc_wp {P:Program} {o:Oper} {a:AA} {h:AH} {B:Nat} {ro:Option Nat} {E:Ren} {w:World} {x:Act} {Q:HX→AA→AH→Prop} {K:Act→World→Prop} {k:Value→AH→Prop} {W:Exit→Act→World→Prop}
  (r:RW P E h w) (rx:RX B ro E w a x)
  (hk:∀ v h' E' w' z,k v h'→RW P E' h' w'→Ext E w E' w'→RX B ro E' w' (a.put o.dst v) z→K z w')
  (hp:∀ v v' h' E' w',Q (.panic v) a h'→RW P E' h' w'→Ext E w E' w'→RV E' v v'→W (.panic [{ v:=v',recovered:=false }]) x w')
  (hh:wpOp P (a.opnd P) o h k (fun v h'=>Q (.panic v) a h')):o.wpR ro P x w K W:=by
 have hput:∀ (d:Option Tmp) (v:Value),(x.put d v).defers=x.defers:=fun d v=>by cases d <;> rfl
 have hnext:∀ {E':Ren} {w':World} {v v':Value},Ext E w E' w'→RV E' v v'→RX B ro E' w' (a.put o.dst v) (x.put o.dst v'):=fun xe rv =>
  rx.next xe ((rx.rt.mono xe.le).put o.dst rv) (hput _ _) (AA.put_rnd _ _ _)
 by_cases hpn:∃ y,o.op=.panic y
 ·obtain ⟨y,ho⟩:=hpn
  unfold wpOp at hh
  rw [ho] at hh
  obtain ⟨v,e,hk'⟩:=oq_eq hh
  have hv:=rx.rt.opnd r y v e
  unfold panicP at hk'
  split at hk'
  ·rename_i t u
   generalize hx:x.eval y=xv at hv
   cases hv with
   | iface _ hv =>
    rename_i u'
    refine wpR_panic (v:=.iface t u') (w':=w) (fun d e=>by rw [ho] at e;cases e) ?_ (hp _ _ h E w hk' r (.refl E w) (.iface t hv))
    unfold execOp
    rw [ho]
    simp only [hx,Instr.panic,goPanic]
    rfl
  ·cases hk'
 ·by_cases hnx:∃ it s,o.op=.next it s
  ·obtain ⟨it,s,ho⟩:=hnx
   unfold wpOp at hh
   rw [ho] at hh
   obtain ⟨iv,e,hk'⟩:=oq_eq hh
   obtain ⟨v,v',h',w',q1,q2,q3,q4,q5⟩:=nextP_run (t:=o.type) r hk' (rx.rt.opnd r it iv e)
   refine wpR_value (v:=v') (w':=w') (fun d e=>by rw [ho] at e;cases e) ?_ (hk v h' E w' _ q5 q2 q3 (hnext q3 q4))
   unfold execOp
   rw [ho]
   exact val_run q1
  by_cases hyl:∃ c f l,o.op=.call c∧c.callee=.value f∧a.opnd P f=some (.chan (some l))
  ·obtain ⟨c,f,l,ho,hc,hf⟩:=hyl
   unfold wpOp at hh
   rw [ho] at hh
   simp only [wpCall] at hh
   obtain ⟨args,ha,hh⟩:=oq_eq hh
   rw [hc] at hh
   simp only at hh
   obtain ⟨fv,hf',hh⟩:=oq_eq hh
   rw [hf] at hf';cases hf'
   exact round_wp r rx ho hc hf ha hk hh
  ·obtain ⟨out,hop,hk'⟩:=wpOp_abs (fun y e=>hpn ⟨y,e⟩) (fun it s e=>hnx ⟨it,s,e⟩) (fun c f l e1 e2 e3=>hyl ⟨c,f,l,e1,e2,e3⟩) hh
   have hok:=absOp_ok r (rx.rt.opnd r) hop
   cases out with
   | val v h' =>
    obtain ⟨E',v',w',h1,h2,h3,h4⟩:=hok
    exact wpR_value (abs_nodefer hop) h1 (hk v h' E' w' _ hk' h2 h3 (hnext h3 h4))
   | unit h' =>
    obtain ⟨E',w',h1,h2,h3⟩:=hok
    exact wpR_skip (abs_nodefer hop) h1 (hk undef h' E' w' _ hk' h2 h3 (hnext h3 rv_undef))
   | enter f args h' =>
    obtain ⟨E',args',w',h1,h2,h3,h4⟩:=hok
    refine wpR_enter (abs_nodefer hop) h1 ((hk' E' w' args' h2 h4).mono ?_)
    rintro e w'' ⟨E'',res,h'',q1,q2,q3,q4⟩
    cases res with
    | ret v =>
     cases e with
     | returned v'=>exact hk v h'' E'' w'' _ q4 q2 (h3.trans q3) (hnext (h3.trans q3) q1)
     | _=>cases q1
    | pan v =>
     cases e with
     | panicked chain =>
      obtain ⟨v',rfl,hv⟩:=q1
      exact hp v v' h'' E'' w'' q4 q2 (h3.trans q3) hv
     | _=>cases q1
theorem defer_wp {P:Program} {o:Oper} {a:AA} {v:Value} {h:AH} {B:Nat} {ro:Option Nat} {E:Ren} {w:World} {x:Act} {K:Act→World→Prop} {W:Exit→Act→World→Prop}
  (hv:deferOf P a o=some v) (r:RW P E h w) (rx:RX B ro E w a x) (hk:∀ z,RX B ro E w ((a.defer v).put o.dst undef) z→K z w):o.wpR ro P x w K W:=by
 unfold deferOf at hv
 split at hv
 case h_2=>cases hv
 rename_i c hop
 split at hv
 case h_2=>cases hv
 rename_i f hc
 split at hv
 case isFalse=>cases hv
 rename_i hif
 rw [Bool.and_eq_true] at hif
 split at hv
 case h_2=>cases hv
 rename_i g fi ca hf
 cases hv
 have hro:ro=none:=by
  have:=rx.rd
  rw [Option.isNone_iff_eq_none.1 hif.2] at this
  cases ro with
  | none=>rfl
  | some _=>cases this
 subst hro
 have hargs:c.args = #[]:=by simpa using hif.1
 have hfv:=rx.rt.opnd r f _ hf
 refine ⟨fun f _=>Fr_fn none f,?_⟩
 have hsem:(o.semAt (Fr none).round x.eval).run P w=(execOp x.eval o).run P w:=by rw [Fr_round];rfl
 rw [hsem]
 generalize hx:x.eval f=fv at hfv
 have hput:∀ (z:Act) (d:Option Tmp) (v:Value),(z.put d v).defers=z.defers:=fun z d v=>by cases d <;> rfl
 cases hfv with
 | func _ h1 h2 h3 h4 =>
  rename_i fi' ca'
  have hrun:(execOp x.eval o).run P w=.ok (.defer { target:=.fn (.func g) ca',args:=fi' }) w:=by
   unfold execOp
   rw [hop]
   simp [resolve,hc,hx,Deferred.ofValue,hargs,Sem.run_bind,Sem.run_pure,Result.andThen_ok]
  rw [hrun]
  show K _ w
  refine hk _ ⟨?_,?_,?_⟩
  ·exact RT.put (x:={ tmps:=x.tmps,defers:=_::x.defers }) (a:=a.defer _) ⟨rx.rt.size,rx.rt.get⟩ o.dst rv_undef
  ·rw [AA.put_rnd];exact rx.rd
  ·rw [AA.put_rnd,hput]
   exact rx.xd.fn (.func g h1 h2 h3 h4)
theorem wpO_ok {P:Program} {ops:Array Oper} {Q:HX→AA→AH→Prop}:∀ (l:List Nat) {a:AA} {h:AH},wpO P ops l a h Q→∀ {B:Nat} {ro:Option Nat} {E₀ E:Ren} {w₀ w:World} {x:Act},RW P E h w→Ext E₀ w₀ E w→RX B ro E w a x →
  wpOpsR ro P ops (HPost P B ro E₀ w₀ Q) l x w:=by
 intro l
 induction l with
 | nil =>
  intro a h hh B ro E₀ E w₀ w x r xt rx
  exact ⟨.normal,a,h,E,trivial,r,xt,rx,hh⟩
 | cons i rest ih =>
  intro a h hh B ro E₀ E w₀ w x r xt rx
  have hput:∀ (d:Option Tmp) (v:Value),(x.put d v).defers=x.defers:=fun d v=>by cases d <;> rfl
  simp only [wpO] at hh
  simp only [wpOpsR]
  cases ho:ops[i]? with
  | none=>rw [ho] at hh;exact ih hh r xt rx
  | some o =>
   rw [ho] at hh
   simp only at hh ⊢
   have run:wpOp P (a.opnd P) o h (fun v h'=>wpO P ops rest (a.put o.dst v) h' Q) (fun v h'=>Q (.panic v) a h')→o.wpR ro P x w (wpOpsR ro P ops (HPost P B ro E₀ w₀ Q) rest) (HPost P B ro E₀ w₀ Q):=fun hw =>
    hc_wp (Q:=Q) r rx (fun v h' E' w' z hk q1 q2 q3=>ih hk q1 (xt.trans q2) q3)
     (fun v v' h' E' w' hk q1 q2 q3=>⟨.panic v,a,h',E',⟨v',rfl,q3⟩,q1,xt.trans q2,rx.next q2 (rx.rt.mono q2.le) rfl rfl,hk⟩) hw
   have skip:wpO P ops rest (a.put o.dst undef) h Q→wpOpsR ro P ops (HPost P B ro E₀ w₀ Q) rest (x.put o.dst undef) w:=fun hw=>ih hw r xt (rx.next (.refl E w) (rx.rt.put o.dst rv_undef) (hput _ _) (AA.put_rnd _ _ _))
   split at hh
   ·rename_i hg
    rw [if_pos (by unfold Region.wanted;rw [hg])]
    split at hh
    ·obtain ⟨v,hv,hh⟩:=bq_eq hh
     exact defer_wp hv r rx fun z rz=>ih hh r xt rz
    ·exact run hh
   ·rename_i j want hg
    split at hh
    ·rename_i d hd'
     split at hh
     ·rename_i hlt
      obtain ⟨v,hv,hh⟩:=oq_eq hh
      have hkn:a.knows ops o=true:=by
       unfold AA.knows
       rw [hg]
       simp only [hd',hlt,if_true,hv,Option.isSome_some]
      rw [← rx.rt.yielded ops hkn]
      have hy:a.yielded ops j=match v with | .bool b=>some b | _=>none:=by
       unfold AA.yielded
       simp only [hd',hlt,if_true,hv]
       cases v <;> rfl
      have hw:Region.wanted o (a.yielded ops)=(a.yielded ops j == some want):=by
       unfold Region.wanted;rw [hg]
      rw [hw,hy]
      rw [guardQ_iff] at hh
      unfold guardI at hh
      cases v with
      | bool b =>
       simp only at hh ⊢
       by_cases e:b=want
       ·rw [if_pos e] at hh
        rw [if_pos (by simp [e])]
        exact run hh
       ·rw [if_neg e] at hh
        rw [if_neg (by simp [e])]
        exact skip hh
      | _ =>
       simp only at hh ⊢
       exact skip hh
     ·rename_i hlt
      have hkn:a.knows ops o=true:=by
       unfold AA.knows
       rw [hg]
       simp only [hd',hlt,if_false]
      rw [← rx.rt.yielded ops hkn]
      have:Region.wanted o (a.yielded ops)=false:=by
       unfold Region.wanted AA.yielded
       rw [hg]
       simp only [hd',hlt,if_false]
       rfl
      rw [this]
      exact skip hh
    ·rename_i hd'
     have hkn:a.knows ops o=true:=by
      unfold AA.knows
      rw [hg]
      simp only [hd']
     rw [← rx.rt.yielded ops hkn]
     have:Region.wanted o (a.yielded ops)=false:=by
      unfold Region.wanted AA.yielded
      rw [hg]
      simp only [hd']
      rfl
     rw [this]
     exact skip hh
end Go.Ab
end
section
namespace Go.Ab
def StepW (P:Program) (ops:Array Oper) (o:Oper) (a:AA) (h:AH) (v:Value) (h':AH):Prop :=
 ∀ (ro:Option Nat) (E:Ren) (w:World) (y:Act) (K:Act→World→Prop) (W:Exit→Act→World→Prop),RW P E h w→RT E a y.tmps →
  (∀ E' w' v',RW P E' h' w'→Ext E w E' w'→RV E' v v'→K (y.put o.dst v') w') →
  if Region.wanted o (Go.yielded ops y.tmps) then o.wpR ro P y w K W else K (y.put o.dst undef) w
structure TraceW (P:Program) (ops:Array Oper) (rs:List Rec) (a:AA) (h h₂:AH):Prop where
 len:rs.length=ops.size
 op:∀ (i:Nat) r,rs[i]?=some r→ops[i]?=some r.o
 head:∀ r,rs[0]?=some r→r.h=h
 chain:∀ (i:Nat) r q,rs[i]?=some r→rs[i + 1]?=some q→q.h=r.h'
 last:(rs=[]→h₂=h)∧∀ r,rs[rs.length - 1]?=some r→h₂=r.h'
 known:∀ (i:Nat) r,rs[i]?=some r→r.a.n=a.n∧∀ t v,r.a.get t=some v→valT rs a t (lastB (writesAt rs a.n t) i)=some v∧t ∈ readsOf ops r.o
 step:∀ (i:Nat) r,rs[i]?=some r→StepW P ops r.o r.a r.h r.v r.h'
 quiet:∀ (i:Nat) r,rs[i]?=some r→r.q=false→r.h' = r.h
structure OrderedW (P:Program) (ops:Array Oper) (rs:List Rec) (n:Nat) (h:AH) (pl:Nat→List Nat):Prop where
 ahead:∀ m i l,Good m ops (i::l)→∀ j ∈ pl i,j ∈ l
 tm:∀ i k x y d,rs[i]?=some x→rs[k]?=some y→i ≠ k→y.o.dst=some d→d < n→(d ∈ readsOf ops x.o ∨ x.o.dst=some d)→(k < i→k ∈ pl i)∧(i < k→i ∈ pl k)
 ld:∀ i k,loudAt rs i=true→loudAt rs k=true→k < i→k ∈ pl i
 rd:∀ i r,rs[i]?=some r→r.q=false→∀ q:Option Nat,(∀ l,q=some l→loudAt rs l=true) →
  (∀ p ∈ pl i,loudAt rs p=true→∃ l,q=some l∧p ≤ l)→(∀ l',loudAt rs l' = true→(∃ l,q=some l∧l' ≤ l)→i ∉ pl l') →
  StepW P ops r.o r.a (heapT rs h q) r.v (heapT rs h q)
section
variable {P:Program} {ops:Array Oper} {a a₂:AA} {h h₂:AH} {rs:List Rec}
theorem TraceW.heap (ht:TraceW P ops rs a h h₂):∀ (i:Nat) r,rs[i]?=some r→r.h=heapT rs h (lastB (loudAt rs) i):=by
 intro i
 induction i with
 | zero=>intro r hr;rw [ht.head r hr];rfl
 | succ i ih =>
  intro r hr
  have hlt:i < rs.length:=by have:=(List.getElem?_eq_some_iff.1 hr).1;omega
  have hp:rs[i]?=some rs[i]:=List.getElem?_eq_getElem hlt
  rw [ht.chain i rs[i] r hp hr]
  simp only [lastB,loudAt,hp]
  cases hl:rs[i].q with
  | true=>simp [heapT,hp]
  | false=>rw [ht.quiet i _ hp hl,ih _ hp];rfl
theorem TraceW.heapEnd (ht:TraceW P ops rs a h h₂):h₂=heapT rs h (lastB (loudAt rs) ops.size):=by
 cases hn:ops.size with
 | zero =>
  have:rs=[]:=List.eq_nil_of_length_eq_zero (by rw [ht.len,hn])
  rw [ht.last.1 this];rfl
 | succ i =>
  have hlt:i < rs.length:=by rw [ht.len,hn];omega
  have hp:rs[i]?=some rs[i]:=List.getElem?_eq_getElem hlt
  have hl:=ht.last.2 rs[i] (by rw [ht.len,hn];exact hp)
  rw [hl]
  simp only [lastB,loudAt,hp]
  cases hq:rs[i].q with
  | true=>simp [heapT,hp]
  | false=>rw [ht.quiet i _ hp hq,ht.heap i _ hp];rfl
section
variable {pl:Nat→List Nat} (ho:OrderedW P ops rs a.n h pl)
include ho
theorem closedW {m:Region.Mode} {acc:List Nat} (hg:Good m ops acc) {k:Nat} (hk:k ∈ acc):∀ j ∈ pl k,j ∈ acc:=by
 intro j hj
 obtain ⟨l1,l2,rfl⟩:=List.append_of_mem hk
 have:=ho.ahead m k l2 hg.drop j hj
 exact List.mem_append_right _ (List.mem_cons_of_mem _ this)
theorem last_hereW {m:Region.Mode} {i:Nat} {acc:List Nat} (hg:Good m ops (i::acc)) (hi:i < ops.size) {p:Nat→Bool}
  (h1:∀ k,k < i→p k=true→k ∈ pl i) (h2:∀ k,i < k→p k=true→i ∈ pl k):lastB (fun k=>p k && decide (k ∈ acc)) ops.size=lastB p i:=by
 have hup:∀ k,i ≤ k→k < ops.size→(p k && decide (k ∈ acc))=false:=by
  intro k hk _
  rw [Bool.and_eq_false_iff]
  by_cases e:k=i
  ·subst e;right;simpa using hg.2.1
  ·cases hp:p k with
   | false=>exact .inl rfl
   | true =>
    right
    have:=h2 k (by omega) hp
    simp only [decide_eq_false_iff_not]
    exact fun hc=>hg.2.1 (closedW ho hg.1 hc i this)
 rw [lastB_cut (Nat.le_of_lt hi) hup]
 refine lastB_congr fun k hk=>?_
 cases hp:p k with
 | false=>rfl
 | true=>simpa using ho.ahead m i acc hg k (h1 k hk hp)
theorem last_putW {m:Region.Mode} {i:Nat} {acc:List Nat} (hg:Good m ops (i::acc)) (hi:i < ops.size) {p:Nat→Bool} (hp:p i=true)
  (h2:∀ k,i < k→p k=true→i ∈ pl k):lastB (fun k=>p k && decide (k ∈ i::acc)) ops.size=some i:=by
 refine lastB_at hi (by simp [hp]) fun k hk _=>?_
 rw [Bool.and_eq_false_iff]
 cases hpk:p k with
 | false=>exact .inl rfl
 | true =>
  right
  have:=h2 k hk hpk
  simp only [decide_eq_false_iff_not,List.mem_cons,not_or]
  exact ⟨by omega,fun hc=>hg.2.1 (closedW ho hg.1 hc i this)⟩
end
theorem draw_wpW {ro:Option Nat} {D:List Deferred} (ht:TraceW P ops rs a h h₂) {pl:Nat→List Nat} (ho:OrderedW P ops rs a.n h pl) (hn₂:a₂.n=a.n) (hv₂:∀ t v,a₂.get t=some v→valT rs a t (lastB (writesAt rs a.n t) ops.size)=some v)
  {E:Ren} {w:World} {x:Act} {Q:Exit→Act→World→Prop} (r0:RW P E h w) (rt0:RT E a x.tmps) (hd0:x.defers=D)
  (hQ:∀ E' w' y,RW P E' h₂ w'→Ext E w E' w'→RT E' a₂ y.tmps→y.defers=D→Q .normal y w') {m:Region.Mode} {l:List Nat} (hg:Good m ops l) (hl:l.length=ops.size) :
  wpOpsR ro P ops Q l.reverse x w:=by
 have go:∀ (rest acc:List Nat),Good m ops (rest.reverse++acc)→(rest.reverse++acc).length=ops.size→∀ (E':Ren) (w':World) (y:Act) (aS:AA),
   RW P E' (heapT rs h (lastB (fun k=>loudAt rs k && decide (k ∈ acc)) ops.size)) w'→Ext E w E' w'→RT E' aS y.tmps→aS.n=a.n →
   (∀ t,aS.get t=valT rs a t (lastB (fun k=>writesAt rs a.n t k && decide (k ∈ acc)) ops.size))→y.defers=D→wpOpsR ro P ops Q rest y w':=by
  intro rest
  induction rest with
  | nil =>
   intro acc hga hla E' w' y aS r xt rt hn hv hd
   simp only [List.reverse_nil,List.nil_append] at hga hla
   have hall:∀ k,k < ops.size→k ∈ acc:=by
    intro k hk
    apply Classical.byContradiction
    intro hc
    have hsub:∀ j ∈ k::acc,j ∈ List.range ops.size:=by
     intro j hj
     cases hj with
     | head=>exact List.mem_range.2 hk
     | tail _ hj=>exact List.mem_range.2 (hga.lt j hj)
    have:=(List.nodup_cons.2 ⟨hc,hga.nodup⟩).length_le_of_subset hsub
    rw [List.length_range,List.length_cons] at this
    omega
   have hcg:∀ p:Nat→Bool,lastB (fun k=>p k && decide (k ∈ acc)) ops.size=lastB p ops.size:=fun p=>lastB_congr fun k hk=>by simp [hall k hk]
   simp only [wpOpsR]
   refine hQ E' w' y ?_ xt (rt.less (by rw [hn₂,hn]) fun t v hvt=>?_) hd
   ·rw [ht.heapEnd,← hcg];exact r
   ·rw [hv t,hcg];exact hv₂ t v hvt
  | cons i rest ih =>
   intro acc hga hla E' w' y aS r xt rt hn hv hd
   have hga':Good m ops (rest.reverse++(i::acc)):=by simpa using hga
   have hla':(rest.reverse++(i::acc)).length=ops.size:=by simpa using hla
   have hgi:Good m ops (i::acc):=hga'.drop
   obtain ⟨o,hoi,_⟩:=hgi.2.2
   have hi:i < ops.size:=(Array.getElem?_eq_some_iff.1 hoi).1
   have hri:rs[i]?=some (rs[i]'(by rw [ht.len];omega)):=List.getElem?_eq_getElem _
   generalize hr:rs[i]'(by rw [ht.len];omega)=ri at hri
   have hro:ri.o=o:=by
    have:=ht.op i ri hri
    rw [hoi] at this
    exact (Option.some.inj this).symm
   obtain ⟨g1,g2⟩:=ht.known i ri hri
   have hreads:∀ t v,ri.a.get t=some v→aS.get t=some v:=by
    intro t v htv
    obtain ⟨k1,k2⟩:=g2 t v htv
    rw [hv t,← k1]
    congr 1
    refine last_hereW ho hgi hi (fun k hk hp=>?_) (fun k hk hp=>?_)
    ·unfold writesAt at hp
     split at hp
     ·rename_i yk hyk
      simp only [Bool.and_eq_true,beq_iff_eq,decide_eq_true_eq] at hp
      exact (ho.tm i k ri yk t hri hyk (by omega) hp.1 hp.2 (.inl k2)).1 hk
     ·cases hp
    ·unfold writesAt at hp
     split at hp
     ·rename_i yk hyk
      simp only [Bool.and_eq_true,beq_iff_eq,decide_eq_true_eq] at hp
      exact (ho.tm i k ri yk t hri hyk (by omega) hp.1 hp.2 (.inl k2)).2 hk
     ·cases hp
   have rti:RT E' ri.a y.tmps:=rt.less (by rw [g1,hn]) hreads
   have hli:loudAt rs i=ri.q:=by simp [loudAt,hri]
   have hwi:∀ t,writesAt rs a.n t i=(ri.o.dst == some t && decide (t < a.n)):=fun t=>by simp [writesAt,hri]
   have hloudHere:ri.q=true→heapT rs h (lastB (fun k=>loudAt rs k && decide (k ∈ acc)) ops.size)=ri.h:=by
    intro hl
    rw [ht.heap i ri hri,last_hereW ho hgi hi (fun k hk hp=>ho.ld i k (by rw [hli];exact hl) hp hk) (fun k hk hp=>ho.ld k i hp (by rw [hli];exact hl) hk)]
   have hloudPut:ri.q=true→heapT rs h (lastB (fun k=>loudAt rs k && decide (k ∈ i::acc)) ops.size)=ri.h':=by
    intro hl
    rw [last_putW ho hgi hi (by rw [hli];exact hl) (fun k hk hp=>ho.ld k i hp (by rw [hli];exact hl) hk)]
    simp [heapT,hri]
   have hquietPut:ri.q=false→heapT rs h (lastB (fun k=>loudAt rs k && decide (k ∈ i::acc)) ops.size)=heapT rs h (lastB (fun k=>loudAt rs k && decide (k ∈ acc)) ops.size):=by
    intro hl
    rw [last_skip (by rw [hli];exact hl)]
   have hvals:∀ t,(aS.put ri.o.dst ri.v).get t=valT rs a t (lastB (fun k=>writesAt rs a.n t k && decide (k ∈ i::acc)) ops.size):=by
    intro t
    by_cases hw:writesAt rs a.n t i=true
    ·have hw':=hw
     rw [hwi] at hw'
     simp only [Bool.and_eq_true,beq_iff_eq,decide_eq_true_eq] at hw'
     rw [last_putW ho hgi hi hw (fun k hk hp=>by
      unfold writesAt at hp
      split at hp
      ·rename_i yk hyk
       simp only [Bool.and_eq_true,beq_iff_eq,decide_eq_true_eq] at hp
       exact (ho.tm i k ri yk t hri hyk (by omega) hp.1 hp.2 (.inr hw'.1)).2 hk
      ·cases hp)]
     rw [hw'.1,AA.get_put,hn,if_pos ⟨rfl,hw'.2⟩]
     simp [valT,hri]
    ·rw [last_skip (by simpa using hw),← hv t]
     rw [hwi] at hw
     cases hdst:ri.o.dst with
     | none=>rfl
     | some d =>
      rw [AA.get_put,hn,if_neg]
      rintro ⟨rfl,hlt⟩
      exact hw (by simp [hdst,hlt])
   have hnn:∀ v,(aS.put ri.o.dst v).n=a.n:=fun v=>by rw [put_n,hn]
   have hput:∀ (d:Option Tmp) (v:Value),(y.put d v).defers=D:=fun d v=>by cases d <;> exact hd
   simp only [wpOpsR,hoi]
   rw [← hro]
   cases hq:ri.q with
   | true =>
    have hst:=ht.step i ri hri
    rw [← hloudHere hq] at hst
    exact hst ro E' w' y _ _ r rti fun E2 w2 v2 p1 p2 p3=>ih (i::acc) hga' hla' E2 w2 _ _ (by rw [hloudPut hq];exact p1) (xt.trans p2) ((rt.mono p2.le).put ri.o.dst p3) (hnn _) hvals (hput _ _)
   | false =>
    have hrd:=ho.rd i ri hri hq (lastB (fun k=>loudAt rs k && decide (k ∈ acc)) ops.size)
     (fun l hl'=>by have:=(lastB_some hl').2.1;simp only [Bool.and_eq_true] at this;exact this.1)
     (fun p hp hlp=>by
      have hpa:=ho.ahead m i acc hgi p hp
      have hps:=hgi.1.lt p hpa
      cases hlast:lastB (fun k=>loudAt rs k && decide (k ∈ acc)) ops.size with
      | none =>
       have:=lastB_none hlast p hps
       simp [hlp,hpa] at this
      | some l=>exact ⟨l,rfl,(lastB_some hlast).2.2 p hps (by simp [hlp,hpa])⟩)
     (by
      rintro l' hl' ⟨l,hlast,hle⟩ hmem
      obtain ⟨z1,z2,z3⟩:=lastB_some hlast
      simp only [Bool.and_eq_true,decide_eq_true_eq] at z2
      have hla:l' ∈ acc:=by
       by_cases e:l' = l
       ·rw [e];exact z2.2
       ·exact closedW ho hgi.1 z2.2 l' (ho.ld l l' z2.1 hl' (by omega))
      exact hgi.2.1 (closedW ho hgi.1 hla i hmem))
    exact hrd ro E' w' y _ _ r rti fun E2 w2 v2 p1 p2 p3=>ih (i::acc) hga' hla' E2 w2 _ _ (by rw [hquietPut hq];exact p1) (xt.trans p2) ((rt.mono p2.le).put ri.o.dst p3) (hnn _) hvals (hput _ _)
 have hnone:∀ p:Nat→Bool,lastB (fun k=>p k && decide (k ∈ ([]:List Nat))) ops.size=none:=by
  intro p
  have:∀ n,lastB (fun k=>p k && decide (k ∈ ([]:List Nat))) n=none:=by
   intro n
   induction n with
   | zero=>rfl
   | succ n ih=>simp only [lastB,List.not_mem_nil,decide_false,Bool.and_false,Bool.false_eq_true,if_false];simpa using ih
  exact this _
 refine go l.reverse [] (by simpa using hg) (by simpa using hl) E w x a (by rw [hnone];exact r0) (.refl E w) rt0 rfl (fun t=>by rw [hnone];rfl) hd0
end
end Go.Ab
end
