import Derived.Test.YtibigfkeaemanaaGreatDoorZ9
set_option linter.unusedVariables false
set_option linter.unusedSimpArgs false
section
namespace Go.Ab
inductive guardQ (x:Value) (want:Bool) (h:AH) (op:(Value→AH→Prop)→Prop) (k:Value→AH→Prop):Prop
 | yes (e:x=.bool want) (hk:op k):guardQ x want h op k
 | no (e:x ≠ .bool want) (hk:k undef h):guardQ x want h op k
def guardI (x:Value) (want:Bool) (h:AH) (op:(Value→AH→Prop)→Prop) (k:Value→AH→Prop):Prop :=
 match x with
 | .bool b=>if b=want then op k else k undef h
 | _=>k undef h
theorem guardQ_iff {x:Value} {want:Bool} {h:AH} {op:(Value→AH→Prop)→Prop} {k:Value→AH→Prop}:guardQ x want h op k ↔ guardI x want h op k:=by
 unfold guardI
 constructor
 ·intro g
  cases g with
  | yes e hk=>rw [e];simpa using hk
  | no e hk =>
   split
   ·rename_i b
    rw [if_neg (fun e2=>e (by rw [e2]))]
    exact hk
   ·exact hk
 ·intro g
  split at g
  ·rename_i b
   split at g
   ·rename_i e;exact .yes (by rw [e]) g
   ·rename_i e;exact .no (fun e2=>e (by simpa using e2)) g
  ·rename_i hne
   exact .no (fun e=>hne _ e) g
def isDefer:Op→Bool
 | .defer _=>true
 | _=>false
def deferOf (P:Program) (a:AA) (o:Oper):Option Value:=match o.op with
 | .defer c=>match c.callee with
  | .value f=>if c.args.isEmpty && a.rnd.loop.isNone then match a.opnd P f with
   | some (.func (.func g) x y)=>some (.func (.func g) x y)
   | _=>none
   else none
  | _=>none
 | _=>none
def AA.defer (a:AA) (v:Value):AA:=⟨a.tm,a.n,⟨a.rnd.loop,v::a.rnd.dfs⟩⟩
def wpO (P:Program) (ops:Array Oper):List Nat→AA→AH→(HX→AA→AH→Prop)→Prop
 | [],a,h,Q=>Q .normal a h
 | i::rest,a,h,Q =>
  match ops[i]? with
  | none=>wpO P ops rest a h Q
  | some o=>match o.guard with
   | none=>if isDefer o.op then bq (deferOf P a o) fun v=>wpO P ops rest ((a.defer v).put o.dst undef) h Q
    else wpOp P (a.opnd P) o h (fun v h'=>wpO P ops rest (a.put o.dst v) h' Q) (fun v h'=>Q (.panic v) a h')
   | some (j,want)=>match (ops[j]?).bind (·.dst) with
    | some d=>if d < a.n then oq (a.get d) fun x =>
      guardQ x want h (fun k=>wpOp P (a.opnd P) o h k fun v h'=>Q (.panic v) a h') (fun v h'=>wpO P ops rest (a.put o.dst v) h' Q)
     else wpO P ops rest (a.put o.dst undef) h Q
    | none=>wpO P ops rest (a.put o.dst undef) h Q
theorem tmsU_get:∀ (l:List Value) (k:Nat) (t:T Value) (i:Nat) (v:Value),(tmsU k l t).get (i + 1)=some v→(∃ j u,i=k + j∧l[j]?=some u∧unknw u=some v) ∨ t.get (i + 1)=some v:=by
 intro l
 induction l with
 | nil=>intro k t i v h;exact .inr h
 | cons u l ih =>
  intro k t i v h
  rw [tmsU] at h
  rcases ih (k + 1) _ i v h with ⟨j,u',h1,h2,h3⟩ | h
  ·exact .inl ⟨j + 1,u',by omega,by simpa using h2,h3⟩
  ·split at h
   ·rename_i x hx
    rw [T.get_put _ _ _ _ _ (by omega) (Nat.le_refl _) (by omega)] at h
    split at h
    ·rename_i e
     cases h
     exact .inl ⟨0,u,by omega,by simp,hx⟩
    ·exact .inr h
   ·exact .inr h
theorem RU.of {E:Ren} {v v' u:Value} (h:RU E v v') (hu:unknw v=some u):RV E u v':=by
 rcases h with rfl | h
 ·cases hu
 ·cases h with
  | tuple hn hh=>exact hh 0 u v' hu rfl
theorem RU.knw {E:Ren} {v v':Value} (h:RV E v v'):RU E (Ab.knw v) v':=.inr (.tuple rfl fun i a b ha hb=>by
 match i with
 | 0=>simp at ha hb;subst ha hb;exact h
 | _ + 1=>simp at ha)
def RUA (E:Ren) (c c':Array Value):Prop:=c.size=c'.size∧∀ (i:Nat) v v',c[i]?=some v→c'[i]?=some v'→RU E v v'
theorem RUA.set {E:Ren} {c c':Array Value} (h:RUA E c c') (i:Nat) {v v':Value} (hv:RU E v v'):RUA E (c.setIfInBounds i v) (c'.setIfInBounds i v'):=by
 refine ⟨by simp [h.1],fun k a b ha hb=>?_⟩
 rw [Array.getElem?_setIfInBounds] at ha hb
 rw [← h.1] at hb
 split at ha
 ·rename_i e
  rw [if_pos e] at hb
  split at ha
  ·rename_i e'
   rw [if_pos e'] at hb
   cases ha;cases hb;exact hv
  ·cases ha
 ·rename_i e
  rw [if_neg e] at hb
  exact h.2 _ a b ha hb
theorem RUA.fold {E:Ren} {ps:List Tmp}:∀ {l l':List Value} {c c':Array Value},RUA E c c'→l.length=l'.length→(∀ (i:Nat) v v',l[i]?=some v→l'[i]?=some v'→RU E v v') →
  RUA E ((ps.zip l).foldl (fun t (p,v)=>t.setIfInBounds p v) c) ((ps.zip l').foldl (fun t (p,v)=>t.setIfInBounds p v) c'):=by
 induction ps with
 | nil=>intro l l' c c' h _ _;simpa using h
 | cons p ps ih =>
  intro l l' c c' h hs hv
  cases l with
  | nil =>
   cases l' with
   | nil=>simpa using h
   | cons _ _=>cases hs
  | cons v l =>
   cases l' with
   | nil=>cases hs
   | cons v' l' =>
    simp only [List.zip_cons_cons,List.foldl_cons]
    exact ih (h.set p (hv 0 v v' rfl rfl)) (by simpa using hs) fun i a b ha hb=>hv (i + 1) a b (by simpa using ha) (by simpa using hb)
theorem zip_foldl {ps:Array Tmp} {l:Array Value} (c:Array Value):(ps.zip l).foldl (fun t (p,v)=>t.setIfInBounds p v) c=(ps.toList.zip l.toList).foldl (fun t (p,v)=>t.setIfInBounds p v) c:=by
 rw [← Array.foldl_toList,Array.toList_zip]
theorem RW.loopAt {P:Program} {E:Ren} {h:AH} {w:World} (r:RW P E h w) {k:Nat} {l:Loop} {s:Option Nat} (hk:Ab.loopAt h k=some (l,s)) :
  h.get k=some (.loop l,s)∧∃ n l',E.at_ k=some n∧w.heap[n]?=some (.loop l')∧l'.state=l.state∧l'.pending=l.pending∧l'.params=l.params∧l'.assign=l.assign∧l'.body=l.body∧RUA E l.tmps l'.tmps:=by
 unfold Ab.loopAt at hk
 split at hk
 ·rename_i l0 s0 hg
  cases hk
  obtain ⟨n,o',g1,g2,g3,g4⟩:=r.live k _ _ hg
  cases g3 with
  | loop h1 h2 h3 h4 h5 hn h=>exact ⟨hg,n,_,g1,g2,h1,h2,h3,h4,h5,hn,h⟩
 ·cases hk
theorem RW.loopPut {P:Program} {E:Ren} {h:AH} {w:World} (r:RW P E h w) {k n:Nat} {l l':Loop} {s:Option Nat} (hk:Ab.loopAt h k=some (l,s)) (hat:E.at_ k=some n) (hw:w.heap[n]?=some (.loop l')) (st:LoopState) (pe:Option Code) :
  RW P E (h.put k (some (.loop { l with state:=st,pending:=pe },s))) (w.putObj n (.loop { l' with state:=st,pending:=pe }))∧Ext E w E (w.putObj n (.loop { l' with state:=st,pending:=pe })):=by
 obtain ⟨hg,n',l2,g1,g2,h1,h2,h3,h4,h5,hn,ht⟩:=r.loopAt hk
 rw [hat] at g1;cases g1
 rw [hw] at g2;cases g2
 exact r.put hg rfl hat (.loop rfl rfl h3 h4 h5 hn ht)
theorem RT.round {E:Ren} {r:Loop} {tmps':Array Value} {k:Nat} {args:List Value} {args':Array Value} (h:RUA E r.tmps tmps') (ha:RA E args.toArray args') :
  RT E (roundA r k args) ((r.params.zip args').foldl (fun t (p,v)=>t.setIfInBounds p v) tmps'):=by
 have hl:RUA E ((r.params.zip (args.map knw).toArray).foldl (fun t (p,v)=>t.setIfInBounds p v) r.tmps) ((r.params.zip args').foldl (fun t (p,v)=>t.setIfInBounds p v) tmps'):=by
  rw [zip_foldl,zip_foldl]
  refine RUA.fold h (by simpa using ha.1) fun i v v' h1 h2=>?_
  simp only [List.getElem?_map,Option.map_eq_some_iff] at h1
  obtain ⟨u,hu,rfl⟩:=h1
  exact RU.knw (ha.2 i u v' (by simpa using hu) (by simpa using h2))
 refine ⟨hl.1.symm,fun t v hv=>?_⟩
 unfold roundA AA.get at hv
 simp only at hv
 rcases tmsU_get _ _ _ _ _ hv with ⟨j,u,h1,h2,h3⟩ | h1
 ·have e:t=j:=by omega
  subst e
  rw [Array.getElem?_toList] at h2
  rw [Array.getD_eq_getD_getElem?]
  have hlt:=(Array.getElem?_eq_some_iff.1 h2).1
  have hlt':=hlt
  rw [hl.1] at hlt'
  rw [Array.getElem?_eq_getElem hlt']
  exact (hl.2 t u _ h2 (Array.getElem?_eq_getElem hlt')).of h3
 ·simp [T.get] at h1
theorem round_wp {P:Program} {o:Oper} {c:Call} {f:Operand} {a:AA} {h:AH} {B:Nat} {ro:Option Nat} {E:Ren} {w:World} {x:Act} {K:Act→World→Prop} {k:Value→AH→Prop} {W:Exit→Act→World→Prop} {key:Nat} {args:List Value}
  (r:RW P E h w) (rx:RX B ro E w a x) (ho:o.op=.call c) (hc:c.callee=.value f) (hf:a.opnd P f=some (.chan (some key))) (ha:listOf (a.opnd P) c.args.toList=some args)
  (hk:∀ v h' E' w' z,k v h'→RW P E' h' w'→Ext E w E' w'→RX B ro E' w' (a.put o.dst v) z→K z w')
  (hh:roundP P key args h k):o.wpR ro P x w K W:=by
 have hput:∀ (d:Option Tmp) (v:Value),(x.put d v).defers=x.defers:=fun d v=>by cases d <;> rfl
 obtain ⟨⟨l,s⟩,hl,hlen,hh⟩:=bq_eq hh
 simp only at hlen hh
 obtain ⟨hg,n,l',g1,g2,h1,h2,h3,h4,h5,ht⟩:=r.loopAt hl
 have hv:=rx.rt.opnd r f _ hf
 have hra:RA E args.toArray (c.args.map x.eval):=by
  have:=listOf_ok (rx.rt.opnd r) ha
  rwa [show (c.args.toList.map x.eval).toArray=c.args.map x.eval by rw [← Array.toList_map,Array.toArray_toList]] at this
 have hnd:∀ d,o.op ≠ .defer d:=fun d e=>by rw [ho] at e;cases e
 have hsz:(c.args.map x.eval).size=l'.params.size:=by rw [h3,← hlen,← hra.1];simp
 generalize hx:x.eval f=fv at hv
 cases hv with
 | yld hat =>
  rename_i n'
  rw [g1] at hat;cases hat
  have hrun:(execOp x.eval o).run P w=.ok (.round n l'.fn ((l'.params.zip (c.args.map x.eval)).foldl (fun tmps (t,a)=>tmps.setIfInBounds t a) l'.tmps) l'.assign l'.body) w:=by
   unfold execOp
   rw [ho]
   simp only [resolve,hc,hx,Deferred.ofValue,Sem.run_bind,Sem.run_pure,Result.andThen_ok,invoke]
   have:=run_yield (P:=P) (args:=c.args.map x.eval) g2 hsz
   simpa using this
  refine wpR_round hnd hrun ?_
  rw [h3,h4,h5]
  refine roundIn_of_wpIn (Fr_fn ro _) ?_
  rw [Fr_inRound]
  have rxr:RX w.heap.size (some n) E w (roundA l key args) { tmps:=(l.params.zip (c.args.map x.eval)).foldl (fun tmps (t,a)=>tmps.setIfInBounds t a) l'.tmps,defers:=[] } :=
   ⟨RT.round ht hra,g1,XD.nil E w⟩
  refine wpIn_mono (hh w.heap.size (some n) E w _ r rxr) ?_
  rintro e y w1 ⟨hx1,a1,h1',E1,q1,q2,q3,q4,q5⟩
  cases hx1 with
  | normal =>
   cases e with
   | normal =>
    obtain ⟨⟨l1,s1⟩,hl1,hst,hbody⟩:=bq_eq q5
    simp only at hst hbody
    obtain ⟨hg1,n1,l1',p1,p2,p3,p4,p5,p6,p7,p8⟩:=q2.loopAt hl1
    have hn1:n1=n:=by
     have:=q3.le.at_ key n g1
     rw [p1] at this
     exact Option.some.inj this
    subst hn1
    refine ⟨_,run_beginRound p2 (by rw [p3];exact hst),?_⟩
    obtain ⟨rb,xb⟩:=q2.loopPut hl1 p1 p2 .busy l1.pending
    have eb:({ l1' with state:=.busy,pending:=l1.pending }:Loop) = { l1' with state:=.busy }:=by rw [← p4]
    rw [eb] at rb xb
    have rxb:RX w.heap.size (some n1) E1 (w1.putObj n1 (.loop { l1' with state:=.busy })) a1 y:=q4.next xb q4.rt rfl rfl
    refine wpIn_mono (hbody w.heap.size (some n1) E1 _ y rb rxb) ?_
    rintro e2 y2 w2 ⟨hx2,a2,h2',E2,u1,u2,u3,u4,u5⟩
    have fin:∀ j:Option Code,endRd k key j h2'→∃ v w',(Instr.endRound n1 j).run P w2=.ok v w'∧K (x.put o.dst v) w':=by
     intro j hj
     obtain ⟨⟨l2,s2⟩,hl2,hkk⟩:=bq_eq hj
     obtain ⟨_,n2,l2',v1,v2,v3,v4,v5,v6,v7,v8⟩:=u2.loopAt hl2
     have hn2:n2=n1:=by
      have:=u3.le.at_ key n1 p1
      rw [v1] at this
      exact Option.some.inj this
     subst hn2
     obtain ⟨re,xe⟩:=u2.loopPut hl2 v1 v2 (if j.isNone then .ready else .done) j
     have xall:Ext E w E2 (w2.putObj n2 (.loop { l2' with state:=if j.isNone then .ready else .done,pending:=j })):=q3.trans (xb.trans (u3.trans xe))
     refine ⟨_,_,run_endRound j v2,hk _ _ E2 _ _ hkk re xall ?_⟩
     exact rx.next xall ((rx.rt.mono xall.le).put o.dst (.bool _)) (hput _ _) (AA.put_rnd _ _ _)
    cases hx2 with
    | normal=>cases e2 with
     | normal=>exact fin none u5
     | _=>cases u1
    | ret=>cases e2 with
     | ret=>exact fin (some .ret) u5
     | _=>cases u1
    | exit i=>cases e2 with
     | exit j=>have:i=j:=u1
               subst this
               exact fin (some (.exit i)) u5
     | _=>cases u1
    | goto i=>cases e2 with
     | goto j=>have:i=j:=u1
               subst this
               exact fin (some (.goto i)) u5
     | _=>cases u1
    | panic v=>cases u5
   | _=>cases q1
  | _=>cases q5
theorem hc_wp {P:Program} {o:Oper} {a:AA} {h:AH} {B:Nat} {ro:Option Nat} {E:Ren} {w:World} {x:Act} {Q:HX→AA→AH→Prop} {K:Act→World→Prop} {k:Value→AH→Prop} {W:Exit→Act→World→Prop}
  (r:RW P E h w) (rx:RX B ro E w a x)
  (hk:∀ v h' E' w' z,k v h'→RW P E' h' w'→Ext E w E' w'→RX B ro E' w' (a.put o.dst v) z→K z w')
  (hp:∀ v v' h' E' w',Q (.panic v) a h'→RW P E' h' w'→Ext E w E' w'→RV E' v v'→W (.panic [{ v:=v',recovered:=false }]) x w')
  (hh:wpOp P (a.opnd P) o h k (fun v h'=>Q (.panic v) a h')):o.wpR ro P x w K W:=by
 have hput:∀ (d:Option Tmp) (v:Value),(x.put d v).defers=x.defers:=fun d v=>by cases d <;> rfl
 have hnext:∀ {E':Ren} {w':World} {v v':Value},Ext E w E' w'→RV E' v v'→RX B ro E' w' (a.put o.dst v) (x.put o.dst v'):=fun xe rv =>
  rx.next xe ((rx.rt.mono xe.le).put o.dst rv) (hput _ _) (AA.put_rnd _ _ _)
 by_cases hpn:∃ y,o.op=.panic y
 ·obtain ⟨y,ho⟩:=hpn
  unfold wpOp at hh
  rw [ho] at hh
  obtain ⟨v,e,hk'⟩:=oq_eq hh
  have hv:=rx.rt.opnd r y v e
  unfold panicP at hk'
  split at hk'
  ·rename_i t u
   generalize hx:x.eval y=xv at hv
   cases hv with
   | iface _ hv =>
    rename_i u'
    refine wpR_panic (v:=.iface t u') (w':=w) (fun d e=>by rw [ho] at e;cases e) ?_ (hp _ _ h E w hk' r (.refl E w) (.iface t hv))
    unfold execOp
    rw [ho]
    simp only [hx,Instr.panic,goPanic]
    rfl
  ·cases hk'
 ·by_cases hnx:∃ it s,o.op=.next it s
  ·obtain ⟨it,s,ho⟩:=hnx
   unfold wpOp at hh
   rw [ho] at hh
   obtain ⟨iv,e,hk'⟩:=oq_eq hh
   obtain ⟨v,v',h',w',q1,q2,q3,q4,q5⟩:=nextP_run (t:=o.type) r hk' (rx.rt.opnd r it iv e)
   refine wpR_value (v:=v') (w':=w') (fun d e=>by rw [ho] at e;cases e) ?_ (hk v h' E w' _ q5 q2 q3 (hnext q3 q4))
   unfold execOp
   rw [ho]
   exact val_run q1
  by_cases hyl:∃ c f l,o.op=.call c∧c.callee=.value f∧a.opnd P f=some (.chan (some l))
  ·obtain ⟨c,f,l,ho,hc,hf⟩:=hyl
   unfold wpOp at hh
   rw [ho] at hh
   simp only [wpCall] at hh
   obtain ⟨args,ha,hh⟩:=oq_eq hh
   rw [hc] at hh
   simp only at hh
   obtain ⟨fv,hf',hh⟩:=oq_eq hh
   rw [hf] at hf';cases hf'
   exact round_wp r rx ho hc hf ha hk hh
  ·obtain ⟨out,hop,hk'⟩:=wpOp_abs (fun y e=>hpn ⟨y,e⟩) (fun it s e=>hnx ⟨it,s,e⟩) (fun c f l e1 e2 e3=>hyl ⟨c,f,l,e1,e2,e3⟩) hh
   have hok:=absOp_ok r (rx.rt.opnd r) hop
   cases out with
   | val v h' =>
    obtain ⟨E',v',w',h1,h2,h3,h4⟩:=hok
    exact wpR_value (abs_nodefer hop) h1 (hk v h' E' w' _ hk' h2 h3 (hnext h3 h4))
   | unit h' =>
    obtain ⟨E',w',h1,h2,h3⟩:=hok
    exact wpR_skip (abs_nodefer hop) h1 (hk undef h' E' w' _ hk' h2 h3 (hnext h3 rv_undef))
   | enter f args h' =>
    obtain ⟨E',args',w',h1,h2,h3,h4⟩:=hok
    refine wpR_enter (abs_nodefer hop) h1 ((hk' E' w' args' h2 h4).mono ?_)
    rintro e w'' ⟨E'',res,h'',q1,q2,q3,q4⟩
    cases res with
    | ret v =>
     cases e with
     | returned v'=>exact hk v h'' E'' w'' _ q4 q2 (h3.trans q3) (hnext (h3.trans q3) q1)
     | _=>cases q1
    | pan v =>
     cases e with
     | panicked chain =>
      obtain ⟨v',rfl,hv⟩:=q1
      exact hp v v' h'' E'' w'' q4 q2 (h3.trans q3) hv
     | _=>cases q1
theorem defer_wp {P:Program} {o:Oper} {a:AA} {v:Value} {h:AH} {B:Nat} {ro:Option Nat} {E:Ren} {w:World} {x:Act} {K:Act→World→Prop} {W:Exit→Act→World→Prop}
  (hv:deferOf P a o=some v) (r:RW P E h w) (rx:RX B ro E w a x) (hk:∀ z,RX B ro E w ((a.defer v).put o.dst undef) z→K z w):o.wpR ro P x w K W:=by
 unfold deferOf at hv
 split at hv
 case h_2=>cases hv
 rename_i c hop
 split at hv
 case h_2=>cases hv
 rename_i f hc
 split at hv
 case isFalse=>cases hv
 rename_i hif
 rw [Bool.and_eq_true] at hif
 split at hv
 case h_2=>cases hv
 rename_i g fi ca hf
 cases hv
 have hro:ro=none:=by
  have:=rx.rd
  rw [Option.isNone_iff_eq_none.1 hif.2] at this
  cases ro with
  | none=>rfl
  | some _=>cases this
 subst hro
 have hargs:c.args = #[]:=by simpa using hif.1
 have hfv:=rx.rt.opnd r f _ hf
 refine ⟨fun f _=>Fr_fn none f,?_⟩
 have hsem:(o.semAt (Fr none).round x.eval).run P w=(execOp x.eval o).run P w:=by rw [Fr_round];rfl
 rw [hsem]
 generalize hx:x.eval f=fv at hfv
 have hput:∀ (z:Act) (d:Option Tmp) (v:Value),(z.put d v).defers=z.defers:=fun z d v=>by cases d <;> rfl
 cases hfv with
 | func _ h1 h2 h3 h4 =>
  rename_i fi' ca'
  have hrun:(execOp x.eval o).run P w=.ok (.defer { target:=.fn (.func g) ca',args:=fi' }) w:=by
   unfold execOp
   rw [hop]
   simp [resolve,hc,hx,Deferred.ofValue,hargs,Sem.run_bind,Sem.run_pure,Result.andThen_ok]
  rw [hrun]
  show K _ w
  refine hk _ ⟨?_,?_,?_⟩
  ·exact RT.put (x:={ tmps:=x.tmps,defers:=_::x.defers }) (a:=a.defer _) ⟨rx.rt.size,rx.rt.get⟩ o.dst rv_undef
  ·rw [AA.put_rnd];exact rx.rd
  ·rw [AA.put_rnd,hput]
   exact rx.xd.fn (.func g h1 h2 h3 h4)
theorem wpO_ok {P:Program} {ops:Array Oper} {Q:HX→AA→AH→Prop}:∀ (l:List Nat) {a:AA} {h:AH},wpO P ops l a h Q→∀ {B:Nat} {ro:Option Nat} {E₀ E:Ren} {w₀ w:World} {x:Act},RW P E h w→Ext E₀ w₀ E w→RX B ro E w a x →
  wpOpsR ro P ops (HPost P B ro E₀ w₀ Q) l x w:=by
 intro l
 induction l with
 | nil =>
  intro a h hh B ro E₀ E w₀ w x r xt rx
  exact ⟨.normal,a,h,E,trivial,r,xt,rx,hh⟩
 | cons i rest ih =>
  intro a h hh B ro E₀ E w₀ w x r xt rx
  have hput:∀ (d:Option Tmp) (v:Value),(x.put d v).defers=x.defers:=fun d v=>by cases d <;> rfl
  simp only [wpO] at hh
  simp only [wpOpsR]
  cases ho:ops[i]? with
  | none=>rw [ho] at hh;exact ih hh r xt rx
  | some o =>
   rw [ho] at hh
   simp only at hh ⊢
   have run:wpOp P (a.opnd P) o h (fun v h'=>wpO P ops rest (a.put o.dst v) h' Q) (fun v h'=>Q (.panic v) a h')→o.wpR ro P x w (wpOpsR ro P ops (HPost P B ro E₀ w₀ Q) rest) (HPost P B ro E₀ w₀ Q):=fun hw =>
    hc_wp (Q:=Q) r rx (fun v h' E' w' z hk q1 q2 q3=>ih hk q1 (xt.trans q2) q3)
     (fun v v' h' E' w' hk q1 q2 q3=>⟨.panic v,a,h',E',⟨v',rfl,q3⟩,q1,xt.trans q2,rx.next q2 (rx.rt.mono q2.le) rfl rfl,hk⟩) hw
   have skip:wpO P ops rest (a.put o.dst undef) h Q→wpOpsR ro P ops (HPost P B ro E₀ w₀ Q) rest (x.put o.dst undef) w:=fun hw=>ih hw r xt (rx.next (.refl E w) (rx.rt.put o.dst rv_undef) (hput _ _) (AA.put_rnd _ _ _))
   split at hh
   ·rename_i hg
    rw [if_pos (by unfold Region.wanted;rw [hg])]
    split at hh
    ·obtain ⟨v,hv,hh⟩:=bq_eq hh
     exact defer_wp hv r rx fun z rz=>ih hh r xt rz
    ·exact run hh
   ·rename_i j want hg
    split at hh
    ·rename_i d hd'
     split at hh
     ·rename_i hlt
      obtain ⟨v,hv,hh⟩:=oq_eq hh
      have hkn:a.knows ops o=true:=by
       unfold AA.knows
       rw [hg]
       simp only [hd',hlt,if_true,hv,Option.isSome_some]
      rw [← rx.rt.yielded ops hkn]
      have hy:a.yielded ops j=match v with | .bool b=>some b | _=>none:=by
       unfold AA.yielded
       simp only [hd',hlt,if_true,hv]
       cases v <;> rfl
      have hw:Region.wanted o (a.yielded ops)=(a.yielded ops j == some want):=by
       unfold Region.wanted;rw [hg]
      rw [hw,hy]
      rw [guardQ_iff] at hh
      unfold guardI at hh
      cases v with
      | bool b =>
       simp only at hh ⊢
       by_cases e:b=want
       ·rw [if_pos e] at hh
        rw [if_pos (by simp [e])]
        exact run hh
       ·rw [if_neg e] at hh
        rw [if_neg (by simp [e])]
        exact skip hh
      | _ =>
       simp only at hh ⊢
       exact skip hh
     ·rename_i hlt
      have hkn:a.knows ops o=true:=by
       unfold AA.knows
       rw [hg]
       simp only [hd',hlt,if_false]
      rw [← rx.rt.yielded ops hkn]
      have:Region.wanted o (a.yielded ops)=false:=by
       unfold Region.wanted AA.yielded
       rw [hg]
       simp only [hd',hlt,if_false]
       rfl
      rw [this]
      exact skip hh
    ·rename_i hd'
     have hkn:a.knows ops o=true:=by
      unfold AA.knows
      rw [hg]
      simp only [hd']
     rw [← rx.rt.yielded ops hkn]
     have:Region.wanted o (a.yielded ops)=false:=by
      unfold Region.wanted AA.yielded
      rw [hg]
      simp only [hd']
      rfl
     rw [this]
     exact skip hh
end Go.Ab
end
section
namespace Go.Ab
def StepW (P:Program) (ops:Array Oper) (o:Oper) (a:AA) (h:AH) (v:Value) (h':AH):Prop :=
 ∀ (ro:Option Nat) (E:Ren) (w:World) (y:Act) (K:Act→World→Prop) (W:Exit→Act→World→Prop),RW P E h w→RT E a y.tmps →
  (∀ E' w' v',RW P E' h' w'→Ext E w E' w'→RV E' v v'→K (y.put o.dst v') w') →
  if Region.wanted o (Go.yielded ops y.tmps) then o.wpR ro P y w K W else K (y.put o.dst undef) w
structure TraceW (P:Program) (ops:Array Oper) (rs:List Rec) (a:AA) (h h₂:AH):Prop where
 len:rs.length=ops.size
 op:∀ (i:Nat) r,rs[i]?=some r→ops[i]?=some r.o
 head:∀ r,rs[0]?=some r→r.h=h
 chain:∀ (i:Nat) r q,rs[i]?=some r→rs[i + 1]?=some q→q.h=r.h'
 last:(rs=[]→h₂=h)∧∀ r,rs[rs.length - 1]?=some r→h₂=r.h'
 known:∀ (i:Nat) r,rs[i]?=some r→r.a.n=a.n∧∀ t v,r.a.get t=some v→valT rs a t (lastB (writesAt rs a.n t) i)=some v∧t ∈ readsOf ops r.o
 step:∀ (i:Nat) r,rs[i]?=some r→StepW P ops r.o r.a r.h r.v r.h'
 quiet:∀ (i:Nat) r,rs[i]?=some r→r.q=false→r.h' = r.h
structure OrderedW (P:Program) (ops:Array Oper) (rs:List Rec) (n:Nat) (h:AH) (pl:Nat→List Nat):Prop where
 ahead:∀ m i l,Good m ops (i::l)→∀ j ∈ pl i,j ∈ l
 tm:∀ i k x y d,rs[i]?=some x→rs[k]?=some y→i ≠ k→y.o.dst=some d→d < n→(d ∈ readsOf ops x.o ∨ x.o.dst=some d)→(k < i→k ∈ pl i)∧(i < k→i ∈ pl k)
 ld:∀ i k,loudAt rs i=true→loudAt rs k=true→k < i→k ∈ pl i
 rd:∀ i r,rs[i]?=some r→r.q=false→∀ q:Option Nat,(∀ l,q=some l→loudAt rs l=true) →
  (∀ p ∈ pl i,loudAt rs p=true→∃ l,q=some l∧p ≤ l)→(∀ l',loudAt rs l' = true→(∃ l,q=some l∧l' ≤ l)→i ∉ pl l') →
  StepW P ops r.o r.a (heapT rs h q) r.v (heapT rs h q)
section
variable {P:Program} {ops:Array Oper} {a a₂:AA} {h h₂:AH} {rs:List Rec}
theorem TraceW.heap (ht:TraceW P ops rs a h h₂):∀ (i:Nat) r,rs[i]?=some r→r.h=heapT rs h (lastB (loudAt rs) i):=by
 intro i
 induction i with
 | zero=>intro r hr;rw [ht.head r hr];rfl
 | succ i ih =>
  intro r hr
  have hlt:i < rs.length:=by have:=(List.getElem?_eq_some_iff.1 hr).1;omega
  have hp:rs[i]?=some rs[i]:=List.getElem?_eq_getElem hlt
  rw [ht.chain i rs[i] r hp hr]
  simp only [lastB,loudAt,hp]
  cases hl:rs[i].q with
  | true=>simp [heapT,hp]
  | false=>rw [ht.quiet i _ hp hl,ih _ hp];rfl
section
variable {pl:Nat→List Nat} (ho:OrderedW P ops rs a.n h pl)
include ho
end
end
end Go.Ab
end
section
namespace Go.Ab
def exP (P:Program) (f:FuncId) (args:Array Value) (h:AH) (k:Value→AH→Prop):Prop:=∃ v h',Ex P f args h v h'∧k v h'
def enterX (P:Program) (f:FuncId) (args:List Value) (h:AH) (k:Value→AH→Prop):Prop :=
 match P.funcs[f]? with
 | some fn=>if fn.name == "runtime.NumGoroutine" then False else if fn.body.isNone then (if isExt fn then bq (extO fn.name args h) fun r=>k r.1 r.2 else bq (externV P f args) fun v=>k v h) else exP P f args.toArray h k
 | none=>False
def callX (P:Program) (fv:Value) (args:List Value) (h:AH) (k:Value→AH→Prop):Prop:=match fv with
 | .func (.func g) first captured=>enterX P g (first.toList++args++captured.toList) h k
 | _=>False
def invokeX (P:Program) (rv:Value) (name:String) (args:List Value) (h:AH) (k:Value→AH→Prop):Prop:=match rv with
 | .iface t v=>match methodOf P t v name with
  | some (g,r)=>enterX P g (r::args) h k
  | none=>False
 | _=>False
def wpOpX (P:Program) (ρ:Operand→Option Value) (o:Oper) (h:AH) (k:Value→AH→Prop):Prop :=
 match o.op with
 | .call c=>match c.callee with
  | .value f=>oq (listOf ρ c.args.toList) fun args=>oq (ρ f) fun fv=>callX P fv args h k
  | .invoke recv name=>oq (listOf ρ c.args.toList) fun args=>oq (ρ recv) fun rv=>invokeX P rv name args h k
  | .builtin _=>wpCall P ρ c o.type h k fun _ _=>False
 | .panic _=>False
 | .next ..=>False
 | _=>wpOp P ρ o h k fun _ _=>False
def outX (P:Program) (out:Out) (k:Value→AH→Prop):Prop:=match out with
 | .val v h=>k v h
 | .unit h=>k undef h
 | .enter f args h=>exP P f args h k
section
variable {P:Program} {ρ:Operand→Option Value} {h:AH} {k:Value→AH→Prop}
theorem enterX_abs {f:FuncId} {args:List Value} (hh:enterX P f args h k):∃ out,enterOf P f args h=some out∧outX P out k:=by
 unfold enterX at hh
 unfold enterOf
 cases hf:P.funcs[f]? with
 | none=>rw [hf] at hh;cases hh
 | some fn =>
  rw [hf] at hh
  simp only at hh ⊢
  split at hh
  ·cases hh
  ·rename_i hn
   rw [if_neg hn]
   split at hh
   ·rename_i hb
    rw [if_pos hb]
    split at hh
    ·rename_i hx
     rw [if_pos hx]
     obtain ⟨y,e,hk⟩:=bq_eq hh
     exact ⟨.val y.1 y.2,by simp only [e];rfl,hk⟩
    rename_i hx
    rw [if_neg hx]
    obtain ⟨v,e,hk⟩:=bq_eq hh
    unfold externV at e
    split at e
    ·rename_i hp
     rw [if_pos hp]
     split at e
     ·rename_i u hu
      split at e
      ·rename_i hpu
       cases e
       exact ⟨.val v h,by simp only [hu,hpu,if_true],hk⟩
      ·cases e
     ·cases e
    ·cases e
   ·rename_i hb
    rw [if_neg hb]
    exact ⟨_,rfl,hh⟩
theorem outK_X {out:Out} (hne:∀ f args g,out ≠ .enter f args g) (hh:outK P out k fun _ _=>False):outX P out k:=by
 cases out with
 | val v h=>exact hh
 | unit h=>exact hh
 | enter f args g=>exact absurd rfl (hne f args g)
theorem wpOpX_abs {o:Oper} (hh:wpOpX P ρ o h k):∃ out,absOp P ρ o h=some out∧outX P out k:=by
 unfold wpOpX at hh
 have plainCase:(∀ x,o.op ≠ .panic x)→(∀ it s,o.op ≠ .next it s)→(∀ c,o.op ≠ .call c)→wpOp P ρ o h k (fun _ _=>False)→∃ out,absOp P ρ o h=some out∧outX P out k:=by
  intro h1 h0 h2 hw
  obtain ⟨out,hop,hk⟩:=wpOp_abs h1 h0 (fun c f l e=>absurd e (h2 c)) hw
  refine ⟨out,hop,outK_X ?_ hk⟩
  rintro f args g rfl
  have noVal:∀ {v:Option Value},valH h v=some (.enter f args g)→False:=fun e=>by obtain ⟨u,_,e⟩:=valH_eq e;cases e
  have noValP:∀ {v:Option (Value × AH)},valP v=some (.enter f args g)→False:=fun e=>by obtain ⟨u,g,_,e⟩:=valP_eq e;cases e
  unfold absOp at hop
  repeat' split at hop
  all_goals first
   | (cases hop;done)
   | (exact noVal hop)
   | (exact noValP hop)
   | (rename_i ho;exact h2 _ ho)
   | skip
  ·unfold absBin at hop
   repeat' split at hop
   all_goals first
    | (cases hop;done)
    | (exact noVal hop)
  ·unfold absConvert at hop
   repeat' split at hop
   all_goals first
    | (cases hop;done)
    | (exact noVal hop)
 cases ho:o.op with
 | call c =>
  rw [ho] at hh
  simp only at hh
  unfold absOp
  rw [ho]
  simp only
  cases hc:c.callee with
  | builtin b =>
   rw [hc] at hh
   obtain ⟨out,hop,hk⟩:=wpCall_abs (fun f l e=>by rw [hc] at e;cases e) hh
   refine ⟨out,hop,outK_X ?_ hk⟩
   rintro f args g rfl
   have noVal:∀ {v:Option Value},valH h v=some (.enter f args g)→False:=fun e=>by obtain ⟨u,_,e⟩:=valH_eq e;cases e
   have noValP:∀ {v:Option (Value × AH)},valP v=some (.enter f args g)→False:=fun e=>by obtain ⟨u,g,_,e⟩:=valP_eq e;cases e
   unfold absCall at hop
   rw [hc] at hop
   cases b <;> (simp only at hop;repeat' split at hop) <;> first
    | (cases hop;done)
    | (exact noVal hop)
    | (exact noValP hop)
  | value f =>
   rw [hc] at hh
   obtain ⟨args,e1,hh⟩:=oq_eq hh
   obtain ⟨fv,e2,hh⟩:=oq_eq hh
   unfold absCall
   simp only [e1,hc,e2]
   unfold callX at hh
   split at hh
   ·exact enterX_abs hh
   ·cases hh
  | invoke recv name =>
   rw [hc] at hh
   obtain ⟨args,e1,hh⟩:=oq_eq hh
   obtain ⟨rv,e2,hh⟩:=oq_eq hh
   unfold absCall
   simp only [e1,hc,e2]
   unfold invokeX at hh
   split at hh
   ·rename_i t v
    simp only
    cases hm:methodOf P t v name with
    | none=>rw [hm] at hh;cases hh
    | some gr =>
     obtain ⟨g,r⟩:=gr
     rw [hm] at hh
     exact enterX_abs hh
   ·cases hh
 | panic x=>rw [ho] at hh;cases hh
 | next it s=>rw [ho] at hh;cases hh
 | _=>exact plainCase (fun x e=>by rw [ho] at e;cases e) (fun it s e=>by rw [ho] at e;cases e) (fun c e=>by rw [ho] at e;cases e) (by rw [ho] at hh;exact hh)
end
def freeO (o:Oper):Bool:=free o && match o.op with | .call _=>false | _=>true
structure Step1 (P:Program) (ops:Array Oper) (o:Oper) (a:AA) (h:AH) (v:Value) (q:Bool) (h':AH):Prop where
 quiet:q=false→h' = h
 loud:q=true→loud P o=true
 step:∀ b:AA,b.n=a.n→(∀ t ∈ readsOf ops o,b.get t=a.get t)→StepW P ops o b h v h'
 free:freeO o=true→∀ (g:AH) (b:AA),b.n=a.n→(∀ t ∈ readsOf ops o,b.get t=a.get t)→StepW P ops o b g v g
def wpG (P:Program) (ops:Array Oper) (o:Oper) (a:AA) (h:AH) (k:Value→AH→Prop):Prop:=match o.guard with
 | none=>wpOpX P (a.opnd P) o h k
 | some (j,want)=>match (ops[j]?).bind (·.dst) with
  | some d=>if d < a.n then oq (a.get d) fun x=>guardQ x want h (fun k=>wpOpX P (a.opnd P) o h k) k
   else k undef h
  | none=>k undef h
theorem stepG {P:Program} {ops:Array Oper} {o:Oper} {a:AA} {h:AH} {kk:Value→AH→Prop} (hh:wpG P ops o a h kk) :
  ∃ v q h',Step1 P ops o a h v q h'∧kk v h':=by
 have run:∀ (k:Value→AH→Prop),wpOpX P (a.opnd P) o h k→(∀ b:AA,b.n=a.n→(∀ t ∈ readsOf ops o,b.get t=a.get t)→∀ E (y:Act),RT E b y.tmps→Region.wanted o (Go.yielded ops y.tmps)=true) →
   ∃ v q h',Step1 P ops o a h v q h'∧k v h':=by
  intro k hw hwant
  obtain ⟨out,hop,hk⟩:=wpOpX_abs hw
  have hopb:∀ b:AA,(∀ t ∈ readsOf ops o,b.get t=a.get t)→absOp P (b.opnd P) o h=some out:=by
   intro b hb
   rw [← hop]
   refine absOp_congr fun x hx=>?_
   cases x with
   | tmp t=>exact hb t (List.mem_append_left _ (List.mem_filterMap.2 ⟨.tmp t,hx,rfl⟩))
   | _=>rfl
  have stepVal:∀ (g g':AH) (b:AA) (v:Value),b.n=a.n→(∀ t ∈ readsOf ops o,b.get t=a.get t)→absOp P (b.opnd P) o g=some (.val v g')→StepW P ops o b g v g':=by
   intro g g' b v hn hb hop ro E w y K W r rt hK
   rw [if_pos (hwant b hn hb E y rt)]
   obtain ⟨E',v',w',h1,h2,h3,h4⟩:=absOp_ok r (rt.opnd r) hop
   exact wpR_value (abs_nodefer hop) h1 (hK E' w' v' h2 h3 h4)
  have noFree:(∀ v,out ≠ .val v h)→freeO o=true→False:=by
   intro hne hf
   unfold freeO at hf
   rw [Bool.and_eq_true] at hf
   obtain ⟨u,hu⟩:=quiet_val (free_loud hf.1) hop
   exact hne u hu
  cases out with
  | val v h' =>
   refine ⟨v,Ab.loud P o,h',⟨fun hq=>?_,fun hq=>hq,fun b hn hb=>stepVal h h' b v hn hb (hopb b hb),fun hf g b hn hb=>?_⟩,hk⟩
   ·obtain ⟨u,hu⟩:=quiet_val hq hop;cases hu;rfl
   ·unfold freeO at hf
    rw [Bool.and_eq_true] at hf
    obtain ⟨u,hu⟩:=quiet_val (free_loud hf.1) hop
    have hob:=hopb b hb
    cases hu
    exact stepVal g g b v hn hb (free_val hf.1 hob)
  | unit h' =>
   refine ⟨undef,true,h',⟨(fun hq=>by cases hq),fun _=>?_,fun b hn hb ro E w y K W r rt hK=>?_,fun hf=>(noFree (fun v e=>by cases e) hf).elim⟩,hk⟩
   ·cases hl:Ab.loud P o with
    | true=>rfl
    | false=>obtain ⟨u,hu⟩:=quiet_val hl hop;cases hu
   ·rw [if_pos (hwant b hn hb E y rt)]
    obtain ⟨E',w',h1,h2,h3⟩:=absOp_ok r (rt.opnd r) (hopb b hb)
    exact wpR_skip (abs_nodefer hop) h1 (hK E' w' undef h2 h3 rv_undef)
  | enter f args h1 =>
   obtain ⟨v,h',hex,hk⟩:=hk
   refine ⟨v,true,h',⟨(fun hq=>by cases hq),fun _=>?_,fun b hn hb ro E w y K W r rt hK=>?_,fun hf=>(noFree (fun v e=>by cases e) hf).elim⟩,hk⟩
   ·cases hl:Ab.loud P o with
    | true=>rfl
    | false=>obtain ⟨u,hu⟩:=quiet_val hl hop;cases hu
   ·rw [if_pos (hwant b hn hb E y rt)]
    obtain ⟨E',args',w',g1,g2,g3,g4⟩:=absOp_ok r (rt.opnd r) (hopb b hb)
    refine wpR_enter (abs_nodefer hop) g1 ((hex E' w' args' g2 g4).mono ?_)
    rintro e w'' ⟨E'',res,h'',q1,q2,q3,rfl,rfl⟩
    cases e with
    | returned v'=>exact hK E'' w'' v' q2 (g3.trans q3) q1
    | _=>cases q1
 have skip:(∀ b:AA,b.n=a.n→(∀ t ∈ readsOf ops o,b.get t=a.get t)→∀ E (y:Act),RT E b y.tmps→Region.wanted o (Go.yielded ops y.tmps)=false)→Step1 P ops o a h undef false h :=
  fun hw=>⟨fun _=>rfl,(fun hq=>by cases hq),fun b hn hb ro E w y K W r rt hK=>by rw [if_neg (by rw [hw b hn hb E y rt];simp)];exact hK E w undef r (.refl E w) rv_undef,
   fun _ g b hn hb ro E w y K W r rt hK=>by rw [if_neg (by rw [hw b hn hb E y rt];simp)];exact hK E w undef r (.refl E w) rv_undef⟩
 unfold wpG at hh
 split at hh
 ·rename_i hg
  obtain ⟨v,q,h',s,hk⟩:=run _ hh fun b _ _ E y _=>by unfold Region.wanted;rw [hg]
  exact ⟨v,q,h',s,hk⟩
 ·rename_i j want hg
  have hrd:∀ d,(ops[j]?).bind (·.dst)=some d→d ∈ readsOf ops o:=fun d hd=>by simp [readsOf,hg,hd]
  split at hh
  ·rename_i d hd
   split at hh
   ·rename_i hlt
    obtain ⟨x,hx,hh⟩:=oq_eq hh
    have wn:∀ b:AA,b.n=a.n→(∀ t ∈ readsOf ops o,b.get t=a.get t)→∀ E (y:Act),RT E b y.tmps→Region.wanted o (Go.yielded ops y.tmps)=((match x with | .bool c=>some c | _=>none) == some want):=by
     intro b hn hb E y rt
     have hbd:b.get d=some x:=by rw [hb d (hrd d hd)];exact hx
     have hkn:b.knows ops o=true:=by
      unfold AA.knows
      rw [hg]
      simp only [hd,hn,hlt,if_true,hbd,Option.isSome_some]
     rw [← rt.yielded ops hkn]
     unfold Region.wanted AA.yielded
     rw [hg]
     simp only [hd,hn,hlt,if_true,hbd]
     cases x <;> rfl
    rw [guardQ_iff] at hh
    unfold guardI at hh
    cases x with
    | bool c =>
     simp only at hh
     split at hh
     ·rename_i e
      obtain ⟨v,q,h',s,hk⟩:=run _ hh fun b hn hb E y rt=>by rw [wn b hn hb E y rt];simp [e]
      exact ⟨v,q,h',s,hk⟩
     ·rename_i e
      exact ⟨undef,false,h,skip fun b hn hb E y rt=>by rw [wn b hn hb E y rt];simp [e],hh⟩
    | _=>exact ⟨undef,false,h,skip fun b hn hb E y rt=>by rw [wn b hn hb E y rt];rfl,hh⟩
   ·rename_i hlt
    refine ⟨undef,false,h,skip fun b hn hb E y rt=>?_,hh⟩
    have hkn:b.knows ops o=true:=by
     unfold AA.knows
     rw [hg]
     simp only [hd,hn,hlt,if_false]
    rw [← rt.yielded ops hkn]
    unfold Region.wanted AA.yielded
    rw [hg]
    simp only [hd,hn,hlt,if_false]
    rfl
  ·rename_i hd
   refine ⟨undef,false,h,skip fun b hn hb E y rt=>?_,hh⟩
   have hkn:b.knows ops o=true:=by
    unfold AA.knows
    rw [hg]
    simp only [hd]
   rw [← rt.yielded ops hkn]
   unfold Region.wanted AA.yielded
   rw [hg]
   simp only [hd]
   rfl
inductive Run1 (P:Program) (ops:Array Oper):List Oper→AA→AH→List Rec→AA→AH→Prop
 | nil (a:AA) (h:AH):Run1 P ops [] a h [] a h
 | cons {o:Oper} {l:List Oper} {a a₂:AA} {h h' h₂:AH} {v:Value} {q:Bool} {rs:List Rec} (s:Step1 P ops o a h v q h') (t:Run1 P ops l (a.put o.dst v) h' rs a₂ h₂) :
   Run1 P ops (o::l) a h (⟨o,a,h,v,q,h'⟩::rs) a₂ h₂
section
variable {P:Program} {ops:Array Oper}
theorem Run1.get {l:List Oper} {a a₂:AA} {h h₂:AH} {rs:List Rec} (ht:Run1 P ops l a h rs a₂ h₂) :
  rs.length=l.length∧(∀ (i:Nat) r,rs[i]?=some r→l[i]?=some r.o∧Step1 P ops r.o r.a r.h r.v r.q r.h') ∧
  (∀ r,rs[0]?=some r→r.a=a∧r.h=h)∧(∀ (i:Nat) r q,rs[i]?=some r→rs[i + 1]?=some q→q.a=r.a.put r.o.dst r.v∧q.h=r.h') ∧
  (rs=[]→a₂=a∧h₂=h)∧(∀ r,rs[rs.length - 1]?=some r→a₂=r.a.put r.o.dst r.v∧h₂=r.h'):=by
 induction ht with
 | nil a h=>simp
 | @cons o l a a₂ h h' h₂ v q rs s t ih =>
  obtain ⟨q1,q2,q3,q4,q5,q6⟩:=ih
  refine ⟨by simp [q1],fun i r hr=>?_,fun r hr=>?_,fun i r q hr hq=>?_,(fun e=>by cases e),fun r hr=>?_⟩
  ·cases i with
   | zero=>simp at hr;subst hr;exact ⟨rfl,s⟩
   | succ i=>simpa using q2 i r (by simpa using hr)
  ·simp at hr;subst hr;exact ⟨rfl,rfl⟩
  ·cases i with
   | zero =>
    simp at hr hq;subst hr
    obtain ⟨g1,g2⟩:=q3 q (by simpa using hq)
    exact ⟨g1,g2⟩
   | succ i=>exact q4 i r q (by simpa using hr) (by simpa using hq)
  ·cases hrs:rs with
   | nil =>
    subst hrs
    simp at hr;subst hr
    exact q5 rfl
   | cons r0 rs0 =>
    refine q6 r ?_
    rw [hrs] at hr ⊢
    simpa using hr
theorem Run1.rnd {l:List Oper} {a a₂:AA} {h h₂:AH} {rs:List Rec} (ht:Run1 P ops l a h rs a₂ h₂):a₂.rnd=a.rnd:=by
 induction ht with
 | nil a h=>rfl
 | cons s t ih=>rw [ih,AA.put_rnd]
theorem Run1.vals {a a₂:AA} {h h₂:AH} {rs:List Rec} (ht:Run1 P ops ops.toList a h rs a₂ h₂):(∀ (i:Nat) r,rs[i]?=some r→r.a.n=a.n∧∀ t,r.a.get t=valT rs a t (lastB (writesAt rs a.n t) i)) ∧
  a₂.n=a.n∧∀ t,a₂.get t=valT rs a t (lastB (writesAt rs a.n t) ops.size):=by
 obtain ⟨q1,q2,q3,q4,q5,q6⟩:=ht.get
 have put:∀ (r:Rec) (t i:Nat),rs[i]?=some r→r.a.n=a.n→r.a.get t=valT rs a t (lastB (writesAt rs a.n t) i)→(r.a.put r.o.dst r.v).get t=valT rs a t (lastB (writesAt rs a.n t) (i + 1)):=by
  intro r t i hp g1 g2
  simp only [lastB,writesAt,hp]
  cases hd:r.o.dst with
  | none=>simp only [AA.put];rw [g2];rfl
  | some d =>
   rw [AA.get_put,g1]
   by_cases hdt:d=t∧d < a.n
   ·obtain ⟨rfl,hdn⟩:=hdt
    simp [hdn,valT,hp]
   ·rw [if_neg hdt,g2]
    have:(some d == some t && decide (t < a.n))=false:=by
     rw [Bool.and_eq_false_iff]
     by_cases e:d=t
     ·subst e;right;simpa using fun h=>hdt ⟨rfl,h⟩
     ·left;simpa using e
    rw [this]
    rfl
 have key:∀ (i:Nat) r,rs[i]?=some r→r.a.n=a.n∧∀ t,r.a.get t=valT rs a t (lastB (writesAt rs a.n t) i):=by
  intro i
  induction i with
  | zero=>intro r hr;rw [(q3 r hr).1];exact ⟨rfl,fun t=>rfl⟩
  | succ i ih =>
   intro r hr
   have hlt:i < rs.length:=by have:=(List.getElem?_eq_some_iff.1 hr).1;omega
   have hp:rs[i]?=some rs[i]:=List.getElem?_eq_getElem hlt
   obtain ⟨g1,g2⟩:=ih rs[i] hp
   rw [(q4 i rs[i] r hp hr).1]
   exact ⟨by rw [put_n,g1],fun t=>put _ t i hp g1 (g2 t)⟩
 refine ⟨key,?_⟩
 have q1':rs.length=ops.size:=by rw [q1];simp
 cases hn:ops.size with
 | zero =>
  have:rs=[]:=List.eq_nil_of_length_eq_zero (by omega)
  rw [(q5 this).1]
  exact ⟨rfl,fun t=>rfl⟩
 | succ i =>
  have hlt:i < rs.length:=by omega
  have hp:rs[i]?=some rs[i]:=List.getElem?_eq_getElem hlt
  obtain ⟨g1,g2⟩:=key i rs[i] hp
  rw [(q6 rs[i] (by rw [q1',hn];exact hp)).1]
  exact ⟨by rw [put_n,g1],fun t=>put _ t i hp g1 (g2 t)⟩
end
end Go.Ab
end
section
namespace Go.Ab
def qcall (o:Oper):Bool:=match o.op with
 | .call c=>match c.callee with
  | .builtin _=>false
  | _=>true
 | _=>false
def loudZ (P:Program) (o:Oper):Bool:=loud P o && !qcall o
structure SZ (P:Program) (ops:Array Oper) (o:Oper) (a:AA) (h:AH) (v:Value) (q:Bool) (h':AH):Prop where
 loud:q=loudZ P o
 quiet:q=false→h' = h
 step:∀ b:AA,b.n=a.n→(∀ t ∈ readsOf ops o,b.get t=a.get t)→StepW P ops o b h v h'
 free:freeO o=true→∀ (g:AH) (b:AA),b.n=a.n→(∀ t ∈ readsOf ops o,b.get t=a.get t)→StepW P ops o b g v g
inductive RunZ (P:Program) (ops:Array Oper):List Oper→AA→AH→List Rec→AA→AH→Prop
 | nil (a:AA) (h:AH):RunZ P ops [] a h [] a h
 | cons {o:Oper} {l:List Oper} {a a₂:AA} {h h' h₂:AH} {v:Value} {q:Bool} {rs:List Rec} (s:SZ P ops o a h v q h') (t:RunZ P ops l (a.put o.dst v) h' rs a₂ h₂) :
   RunZ P ops (o::l) a h (⟨o,a,h,v,q,h'⟩::rs) a₂ h₂
section
variable {P:Program} {ops:Array Oper}
theorem RunZ.get {l:List Oper} {a a₂:AA} {h h₂:AH} {rs:List Rec} (ht:RunZ P ops l a h rs a₂ h₂) :
  rs.length=l.length∧(∀ (i:Nat) r,rs[i]?=some r→l[i]?=some r.o∧SZ P ops r.o r.a r.h r.v r.q r.h') ∧
  (∀ r,rs[0]?=some r→r.a=a∧r.h=h)∧(∀ (i:Nat) r q,rs[i]?=some r→rs[i + 1]?=some q→q.a=r.a.put r.o.dst r.v∧q.h=r.h') ∧
  (rs=[]→a₂=a∧h₂=h)∧(∀ r,rs[rs.length - 1]?=some r→a₂=r.a.put r.o.dst r.v∧h₂=r.h'):=by
 induction ht with
 | nil a h=>simp
 | @cons o l a a₂ h h' h₂ v q rs s t ih =>
  obtain ⟨q1,q2,q3,q4,q5,q6⟩:=ih
  refine ⟨by simp [q1],fun i r hr=>?_,fun r hr=>?_,fun i r q hr hq=>?_,(fun e=>by cases e),fun r hr=>?_⟩
  ·cases i with
   | zero=>simp at hr;subst hr;exact ⟨rfl,s⟩
   | succ i=>simpa using q2 i r (by simpa using hr)
  ·simp at hr;subst hr;exact ⟨rfl,rfl⟩
  ·cases i with
   | zero =>
    simp at hr hq;subst hr
    obtain ⟨g1,g2⟩:=q3 q (by simpa using hq)
    exact ⟨g1,g2⟩
   | succ i=>exact q4 i r q (by simpa using hr) (by simpa using hq)
  ·cases hrs:rs with
   | nil =>
    subst hrs
    simp at hr;subst hr
    exact q5 rfl
   | cons r0 rs0 =>
    refine q6 r ?_
    rw [hrs] at hr ⊢
    simpa using hr
theorem RunZ.rnd {l:List Oper} {a a₂:AA} {h h₂:AH} {rs:List Rec} (ht:RunZ P ops l a h rs a₂ h₂):a₂.rnd=a.rnd:=by
 induction ht with
 | nil a h=>rfl
 | cons s t ih=>rw [ih,AA.put_rnd]
theorem RunZ.vals {a a₂:AA} {h h₂:AH} {rs:List Rec} (ht:RunZ P ops ops.toList a h rs a₂ h₂):(∀ (i:Nat) r,rs[i]?=some r→r.a.n=a.n∧∀ t,r.a.get t=valT rs a t (lastB (writesAt rs a.n t) i)) ∧
  a₂.n=a.n∧∀ t,a₂.get t=valT rs a t (lastB (writesAt rs a.n t) ops.size):=by
 obtain ⟨q1,q2,q3,q4,q5,q6⟩:=ht.get
 have put:∀ (r:Rec) (t i:Nat),rs[i]?=some r→r.a.n=a.n→r.a.get t=valT rs a t (lastB (writesAt rs a.n t) i)→(r.a.put r.o.dst r.v).get t=valT rs a t (lastB (writesAt rs a.n t) (i + 1)):=by
  intro r t i hp g1 g2
  simp only [lastB,writesAt,hp]
  cases hd:r.o.dst with
  | none=>simp only [AA.put];rw [g2];rfl
  | some d =>
   rw [AA.get_put,g1]
   by_cases hdt:d=t∧d < a.n
   ·obtain ⟨rfl,hdn⟩:=hdt
    simp [hdn,valT,hp]
   ·rw [if_neg hdt,g2]
    have:(some d == some t && decide (t < a.n))=false:=by
     rw [Bool.and_eq_false_iff]
     by_cases e:d=t
     ·subst e;right;simpa using fun h=>hdt ⟨rfl,h⟩
     ·left;simpa using e
    rw [this]
    rfl
 have key:∀ (i:Nat) r,rs[i]?=some r→r.a.n=a.n∧∀ t,r.a.get t=valT rs a t (lastB (writesAt rs a.n t) i):=by
  intro i
  induction i with
  | zero=>intro r hr;rw [(q3 r hr).1];exact ⟨rfl,fun t=>rfl⟩
  | succ i ih =>
   intro r hr
   have hlt:i < rs.length:=by have:=(List.getElem?_eq_some_iff.1 hr).1;omega
   have hp:rs[i]?=some rs[i]:=List.getElem?_eq_getElem hlt
   obtain ⟨g1,g2⟩:=ih rs[i] hp
   rw [(q4 i rs[i] r hp hr).1]
   exact ⟨by rw [put_n,g1],fun t=>put _ t i hp g1 (g2 t)⟩
 refine ⟨key,?_⟩
 have q1':rs.length=ops.size:=by rw [q1];simp
 cases hn:ops.size with
 | zero =>
  have:rs=[]:=List.eq_nil_of_length_eq_zero (by omega)
  rw [(q5 this).1]
  exact ⟨rfl,fun t=>rfl⟩
 | succ i =>
  have hlt:i < rs.length:=by omega
  have hp:rs[i]?=some rs[i]:=List.getElem?_eq_getElem hlt
  obtain ⟨g1,g2⟩:=key i rs[i] hp
  rw [(q6 rs[i] (by rw [q1',hn];exact hp)).1]
  exact ⟨by rw [put_n,g1],fun t=>put _ t i hp g1 (g2 t)⟩
end
end Go.Ab
end
