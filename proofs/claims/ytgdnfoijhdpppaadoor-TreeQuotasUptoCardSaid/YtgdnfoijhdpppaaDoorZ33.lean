import GoSem.ClaimJoined
import Derived.Test.YtgdnfoijhdpppaaDoorZ11
import Derived.Test.YtgdnfoijhdpppaaDoorZ32
set_option linter.unusedVariables false
set_option linter.unusedSimpArgs false
section
namespace Go.Ab
theorem HW.seq {P:Program} {p q:Code} {a:AA} {h:AH} {Q:HX→AA→AH→Prop} (hh:HW P p a h (seqK (fun a h=>HW P q a h Q) Q)):HW P (.seq p q) a h Q:=by
 intro B ro E w x r rx
 refine wpIn_seq (wpIn_mono (hh B ro E w x r rx) ?_)
 rintro e y w' ⟨hx,a',h',E',h1,h2,h3,h4,h6⟩
 cases hx with
 | normal =>
  cases e with
  | normal=>exact wpIn_mono (h6 B ro E' w' y h2 h4) fun e y w hp=>hp.ext h3
  | _=>cases h1
 | _ =>
  cases e <;> first
   | (cases h1;done)
   | exact ⟨_,a',h',E',h1,h2,h3,h4,h6⟩
theorem HW.block {P:Program} {id:Nat} {p:Code} {a:AA} {h:AH} {Q:HX→AA→AH→Prop} (hh:HW P p a h (blockK id Q)):HW P (.block id p) a h Q:=by
 intro B ro E w x r rx
 refine wpIn_block (wpIn_mono (hh B ro E w x r rx) ?_)
 rintro e y w' ⟨hx,a',h',E',h1,h2,h3,h4,h6⟩
 cases hx with
 | exit i =>
  cases e with
  | exit j =>
   have h1':i=j:=h1
   subst h1'
   simp only [blockK] at h6
   simp only [Exit.inBlock]
   split at h6
   ·rename_i e;rw [if_pos e];exact ⟨.normal,a',h',E',trivial,h2,h3,h4,h6⟩
   ·rename_i e;rw [if_neg e];exact ⟨.exit i,a',h',E',rfl,h2,h3,h4,h6⟩
  | _=>cases h1
 | _ =>
  cases e <;> first
   | (cases h1;done)
   | exact ⟨_,a',h',E',h1,h2,h3,h4,h6⟩
theorem HW.cond {P:Program} {c:Operand} {p q:Code} {a:AA} {h:AH} {b:Bool} {Q:HX→AA→AH→Prop} (hb:a.opnd P c=some (.bool b)) (hh:if b then HW P p a h Q else HW P q a h Q):HW P (.cond c p q) a h Q:=by
 intro B ro E w x r rx
 have hv:=rx.rt.opnd r c _ hb
 generalize hx:x.eval c=u at hv
 cases hv
 cases b with
 | true=>exact wpIn_cond_true hx ((by simpa using hh:HW P p a h Q) B ro E w x r rx)
 | false=>exact wpIn_cond_false hx ((by simpa using hh:HW P q a h Q) B ro E w x r rx)
theorem HW.loop {P:Program} {p:Code} {a:AA} {h:AH} {Q:HX→AA→AH→Prop} (hh:HL P p a h Q):HW P (.loop p) a h Q:=fun B ro E w x r rx=>LoopW.wp (hh B ro E w x r rx)
theorem HW.scope {P:Program} {p:Code} {a:AA} {h:AH} {Q:HX→AA→AH→Prop} (hh:HS P p p a h Q):HW P (.scope p) a h Q:=fun B ro E w x r rx=>ScopeW.wp (hh B ro E w x r rx)
theorem HS_mono {P:Program} {c d:Code} {a:AA} {h:AH} {Q R:HX→AA→AH→Prop} (hh:HS P c d a h Q) (hr:∀ e a h,Q e a h→R e a h):HS P c d a h R:=fun B ro E w x r rx b k cs hro=>by
 obtain ⟨e2,a2,w2,q2,arr⟩:=hh B ro E w x r rx b k cs hro
 exact ⟨e2,a2,w2,q2.mono hr,arr⟩
theorem HS.of_scopeN {P:Program} {code:CodeF} (hcd:CodeH P code) {c:Code}:∀ (n:Nat) {d:Code} {a:AA} {h:AH} {L:Outs},codeM.scopeN code c n d a h=some L→HS P c d a h fun e a' h'=>(e,a',h') ∈ L:=by
 intro n
 induction n with
 | zero=>intro d a h L hh;cases hh
 | succ n ih =>
  intro d a h L hh
  simp only [codeM.scopeN] at hh
  obtain ⟨l,h1,h2⟩:=bindO_eq hh
  refine HS.run ((hcd d a h l h1).mono fun e a' h' hm=>?_)
  obtain ⟨m,g1,g2⟩:=goO_mem h2 e a' h' hm
  cases e with
  | goto i =>
   simp only [scopeK]
   simp only at g1
   split at g1
   ·rename_i rest hf
    rw [hf]
    exact HS_mono (ih g1) fun e a h hx=>g2 _ hx
   ·cases g1
  | _=>cases g1;exact g2 _ (by simp)
theorem HC.of_call {P:Program} {call:CallF} (hc:CallOk P call) {f:FuncId} {args:Array Value} {h h':AH} {v:Value} {q:Bool} (hh:call f args h=some (v,q,h')):HC P f args h fun r g=>r=.ret v∧g=h' :=
 fun E w args' r ra=>((hc f args h v q h' hh).2 E w args' r ra).mono fun e w' ⟨E',v',e1,e2,e3,e4⟩=>⟨E',.ret v,h',by subst e1;exact e4,e2,e3,rfl,rfl⟩
theorem codeM_H {P:Program} {call:FCall} {code:CodeF} (hcl:FOk P call) (hcd:CodeH P code) (k:Nat):CodeH P (codeM P call code k):=by
 intro c
 induction c with
 | skip=>intro a h L hh B ro E w x r rx;cases hh;exact wpIn_skip ⟨.normal,a,h,E,trivial,r,.refl E w,rx,by simp⟩
 | label l=>intro a h L hh B ro E w x r rx;cases hh;exact wpIn_label ⟨.normal,a,h,E,trivial,r,.refl E w,rx,by simp⟩
 | exit id=>intro a h L hh B ro E w x r rx;cases hh;exact wpIn_exit ⟨.exit id,a,h,E,rfl,r,.refl E w,rx,by simp⟩
 | goto l=>intro a h L hh B ro E w x r rx;cases hh;exact wpIn_goto ⟨.goto l,a,h,E,rfl,r,.refl E w,rx,by simp⟩
 | ret=>intro a h L hh B ro E w x r rx;cases hh;exact wpIn_ret ⟨.ret,a,h,E,trivial,r,.refl E w,rx,by simp⟩
 | region id ops draw =>
  intro a h L hh B ro E w x r rx
  simp only [codeM] at hh
  cases draw with
  | false=>exact wpR_region (opsM_ok hcl hcd _ (by simpa using hh) (fun e a' h' hm=>hm) r (.refl E w) rx)
  | true =>
   simp only [if_true] at hh
   split at hh
   ·rename_i a₂ h₂ hr
    cases hh
    exact drawRun_ok hcl.call hr r rx.rt rfl fun E' w' y q1 q2 q3 q4=>⟨.normal,a₂,h₂,E',trivial,q1,q2,rx.next q2 q3 q4 (drawRun_rnd hr),by simp⟩
   ·cases hh
 | seq p q ihp ihq =>
  intro a h L hh
  simp only [codeM] at hh
  obtain ⟨l,h1,h2⟩:=bindO_eq hh
  refine HW.seq ((ihp a h l h1).mono fun e a' h' hm=>?_)
  obtain ⟨m,g1,g2⟩:=goO_mem h2 e a' h' hm
  cases e with
  | normal=>exact (ihq a' h' m g1).mono fun e a h hx=>g2 _ hx
  | _=>cases g1;exact g2 _ (by simp)
 | cond c p q ihp ihq =>
  intro a h L hh
  simp only [codeM] at hh
  split at hh
  ·rename_i hb;exact HW.cond hb (by simpa using ihp a h L hh)
  ·rename_i hb;exact HW.cond hb (by simpa using ihq a h L hh)
  ·cases hh
 | block id p ihp =>
  intro a h L hh
  simp only [codeM] at hh
  rw [Option.map_eq_some_iff] at hh
  obtain ⟨l,h1,rfl⟩:=hh
  refine HW.block ((ihp a h l h1).mono fun e a' h' hm=>?_)
  have hm':=List.mem_map_of_mem (f:=fun (x:HX × AA × AH)=>match x with | (e,a',h')=>match e with | .exit j=>if j=id then (HX.normal,a',h') else (.exit j,a',h') | e=>(e,a',h')) hm
  cases e with
  | exit j =>
   simp only [blockK]
   simp only at hm'
   split at hm'
   ·rename_i e;rw [if_pos e];exact hm'
   ·rename_i e;rw [if_neg e];exact hm'
  | _=>exact hm'
 | loop p ihp =>
  intro a h L hh
  exact HW.loop (HL.of_loopM (fun a h L hl=>ihp a h L hl) k hh)
 | scope p ihp =>
  intro a h L hh
  simp only [codeM] at hh
  obtain ⟨l,h1,h2⟩:=bindO_eq hh
  refine HW.scope (HS.run ((ihp a h l h1).mono fun e a' h' hm=>?_))
  obtain ⟨m,g1,g2⟩:=goO_mem h2 e a' h' hm
  cases e with
  | goto i =>
   simp only [scopeK]
   simp only at g1
   split at g1
   ·rename_i rest hf
    rw [hf]
    exact HS_mono (HS.of_scopeN hcd k g1) fun e a h hx=>g2 _ hx
   ·cases g1
  | _=>cases g1;exact g2 _ (by simp)
 | rangeFunc g ps p q ihp ihq =>
  intro a h L hh
  simp only [codeM] at hh
  split at hh
  case h_2=>cases hh
  rename_i f first captured hg
  split at hh
  case isFalse=>cases hh
  rename_i hb
  rw [Bool.and_eq_true] at hb
  split at hh
  case h_2=>cases hh
  rename_i v fl h' hcall
  split at hh
  case h_2=>cases hh
  rename_i r hr
  split at hh
  case isFalse=>cases hh
  rename_i hst
  refine range_ok hg (ar:=a) ⟨?_,hb.1,((hcl _ _ _ _ _ _ _ hcall).2.mono fun res g2 e1=>?_)⟩ fun E t rt=>rt
  ·unfold rndP
   have h2:=hb.2
   unfold rndB at h2
   split
   ·trivial
   ·rename_i k0 hk
    rw [hk] at h2
    exact h2
  ·obtain ⟨rfl,rfl⟩:=e1
   refine bq_of hr ⟨hst,?_⟩
   unfold jumpK jumpX
   split at hh
   ·rename_i e;cases hh;rw [e];simp
   ·rename_i e;cases hh;rw [e];simp
   ·rename_i e;cases hh;rw [e];simp
   ·rename_i e;cases hh;rw [e];simp
   ·cases hh
 | _=>intro a h L hh;cases hh
theorem loopM_logs {body:AA→AH→Option Outs} (hb:∀ a h L,body a h=some L→∀ x ∈ L,Logs h x.2.2):∀ (k:Nat) {a:AA} {h:AH} {L:Outs},loopM body k a h=some L→∀ x ∈ L,Logs h x.2.2:=by
 intro k
 induction k with
 | zero=>intro a h L hh;cases hh
 | succ k ih =>
  intro a h L hh x hx
  simp only [loopM] at hh
  obtain ⟨l,h1,h2⟩:=bindO_eq hh
  obtain ⟨e,a',h',m,g1,g2,g3⟩:=goO_back h2 x hx
  have:=hb a h l h1 _ g1
  cases e with
  | normal=>exact this.trans (ih g2 x g3)
  | _=>cases g2;rw [List.mem_singleton.1 g3];exact this
theorem scopeN_logs {code:CodeF} (hcd:CodeL code) {c:Code}:∀ (n:Nat) {d:Code} {a:AA} {h:AH} {L:Outs},codeM.scopeN code c n d a h=some L→∀ x ∈ L,Logs h x.2.2:=by
 intro n
 induction n with
 | zero=>intro d a h L hh;cases hh
 | succ n ih =>
  intro d a h L hh x hx
  simp only [codeM.scopeN] at hh
  obtain ⟨l,h1,h2⟩:=bindO_eq hh
  obtain ⟨e,a',h',m,g1,g2,g3⟩:=goO_back h2 x hx
  have:=hcd d a h l h1 _ g1
  cases e with
  | goto i =>
   simp only at g2
   split at g2
   ·exact this.trans (ih g2 x g3)
   ·cases g2
  | _=>cases g2;rw [List.mem_singleton.1 g3];exact this
theorem codeM_logs {P:Program} {call:FCall} {code:CodeF} (hcl:FLogs call) (hcd:CodeL code) (k:Nat):CodeL (codeM P call code k):=by
 have one:∀ {h:AH} {e:HX} {a:AA} {L:Outs},some [(e,a,h)]=some L→∀ x ∈ L,Logs h x.2.2:=by
  intro h e a L hh x hx
  cases hh
  rw [List.mem_singleton.1 hx]
  exact .refl _
 intro c
 induction c with
 | region id ops draw =>
  intro a h L hh
  simp only [codeM] at hh
  cases draw with
  | false=>exact opsM_logs hcl hcd _ (by simpa using hh)
  | true =>
   simp only [if_true] at hh
   split at hh
   ·rename_i hr
    cases hh
    intro x hx
    rw [List.mem_singleton.1 hx]
    exact drawRun_logs hcl.call hr
   ·cases hh
 | seq p q ihp ihq =>
  intro a h L hh x hx
  simp only [codeM] at hh
  obtain ⟨l,h1,h2⟩:=bindO_eq hh
  obtain ⟨e,a',h',m,g1,g2,g3⟩:=goO_back h2 x hx
  have:=ihp a h l h1 _ g1
  cases e with
  | normal=>exact this.trans (ihq _ _ _ g2 x g3)
  | _=>cases g2;rw [List.mem_singleton.1 g3];exact this
 | cond c p q ihp ihq =>
  intro a h L hh
  simp only [codeM] at hh
  split at hh
  ·exact ihp a h L hh
  ·exact ihq a h L hh
  ·cases hh
 | block id p ihp =>
  intro a h L hh x hx
  simp only [codeM] at hh
  rw [Option.map_eq_some_iff] at hh
  obtain ⟨l,h1,rfl⟩:=hh
  obtain ⟨⟨e,a',h'⟩,hy,rfl⟩:=List.mem_map.1 hx
  have:=ihp a h l h1 _ hy
  cases e with
  | exit j=>simp only;split <;> exact this
  | _=>exact this
 | loop p ihp =>
  intro a h L hh
  exact loopM_logs (fun a h L hl=>ihp a h L hl) k hh
 | scope p ihp =>
  intro a h L hh x hx
  simp only [codeM] at hh
  obtain ⟨l,h1,h2⟩:=bindO_eq hh
  obtain ⟨e,a',h',m,g1,g2,g3⟩:=goO_back h2 x hx
  have:=ihp a h l h1 _ g1
  cases e with
  | goto i =>
   simp only at g2
   split at g2
   ·exact this.trans (scopeN_logs hcd k g2 x g3)
   ·cases g2
  | _=>cases g2;rw [List.mem_singleton.1 g3];exact this
 | rangeFunc g ps p q ihp ihq =>
  intro a h L hh
  simp only [codeM] at hh
  split at hh
  case h_2=>cases hh
  split at hh
  case isFalse=>cases hh
  split at hh
  case h_2=>cases hh
  rename_i v fl h' hcall
  have hl:=(Logs.push h (.loop (recOf a ps p q)) none).trans (hcl _ _ _ _ _ _ _ hcall)
  split at hh
  case h_2=>cases hh
  split at hh
  case isFalse=>cases hh
  have fin:∀ {e:HX},some [(e,a,h'.put h.size none)]=some L→∀ x ∈ L,Logs h x.2.2:=by
   intro e he x hx
   cases he
   rw [List.mem_singleton.1 hx]
   exact hl.trans (.put _ _ _)
  split at hh
  ·exact fin hh
  ·exact fin hh
  ·exact fin hh
  ·exact fin hh
  ·cases hh
 | skip=>intro a h L hh;exact one hh
 | label l=>intro a h L hh;exact one hh
 | exit id=>intro a h L hh;exact one hh
 | goto l=>intro a h L hh;exact one hh
 | ret=>intro a h L hh;exact one hh
 | _=>intro a h L hh;cases hh
def oeq:Obj→Obj→Bool
 | .cells c e f,.cells c' e' f'=>veq.vall 60 c.toList c'.toList && e == e' && f == f'
 | .map es t,.map es' t'=>es.toList.length == es'.toList.length && (es.toList.zip es'.toList).all (fun (x,y)=>veq 60 x.key y.key && veq 60 x.val y.val && x.born == y.born) && t == t'
 | .stringIter s p,.stringIter s' p'=>decide (s=s') && p == p'
 | .mapIter m a l b,.mapIter m' a' l' b'=>m == m' && a == a' && l == l' && b == b'
 | _,_=>false
theorem vall_eq:∀ (n:Nat) (l k:List Value),veq.vall n l k=true→l=k:=by
 intro n l
 induction l with
 | nil=>intro k h;cases k with
  | nil=>rfl
  | cons _ _=>cases h
 | cons x l ih =>
  intro k h
  cases k with
  | nil=>cases h
  | cons y k =>
   simp only [veq.vall,Bool.and_eq_true] at h
   rw [veq_eq n x y h.1,ih k h.2]
theorem oeq_eq {o p:Obj} (h:oeq o p=true):o=p:=by
 unfold oeq at h
 split at h
 ·simp only [Bool.and_eq_true,beq_iff_eq] at h
  obtain ⟨⟨h1,h2⟩,h3⟩:=h
  rw [Array.ext' (vall_eq _ _ _ h1),h2,h3]
 ·rename_i es t es' t'
  simp only [Bool.and_eq_true,beq_iff_eq] at h
  obtain ⟨⟨h1,h2⟩,h3⟩:=h
  have:es.toList=es'.toList:=by
   apply List.ext_getElem h1
   intro i hi hi'
   have:=List.all_eq_true.1 h2 (es.toList[i],es'.toList[i]) (by
    rw [List.mem_iff_getElem]
    exact ⟨i,by simp at hi hi' ⊢;omega,by simp⟩)
   simp only [Bool.and_eq_true,beq_iff_eq] at this
   obtain ⟨⟨a,b⟩,c⟩:=this
   have a':=veq_eq _ _ _ a
   have b':=veq_eq _ _ _ b
   cases hx:es.toList[i]
   cases hy:es'.toList[i]
   rw [hx,hy] at a' b' c
   simp only at a' b' c
   rw [a',b',c]
  rw [Array.ext' this,h3]
 ·simp only [Bool.and_eq_true,beq_iff_eq,decide_eq_true_eq] at h
  rw [h.1,h.2]
 ·simp only [Bool.and_eq_true,beq_iff_eq] at h
  obtain ⟨⟨⟨a,b⟩,c⟩,d⟩:=h
  rw [a,b,c,d]
 ·cases h
def teq:T (Obj × Option Nat)→T (Obj × Option Nat)→Bool
 | .leaf,.leaf=>true
 | .node v l r,.node v' l' r'=>(match v,v' with
  | none,none=>true
  | some (o,s),some (o',s')=>s == s' && oeq o o'
  | _,_=>false) && teq l l' && teq r r'
 | _,_=>false
theorem teq_eq:∀ {t u:T (Obj × Option Nat)},teq t u=true→t=u:=by
 intro t
 induction t with
 | leaf=>intro u h;cases u with
  | leaf=>rfl
  | node _ _ _=>cases h
 | node v l r ihl ihr =>
  intro u h
  cases u with
  | leaf=>cases h
  | node v' l' r' =>
   simp only [teq,Bool.and_eq_true] at h
   obtain ⟨⟨h1,h2⟩,h3⟩:=h
   rw [ihl h2,ihr h3]
   congr 1
   split at h1
   ·rfl
   ·simp only [Bool.and_eq_true,beq_iff_eq] at h1
    rw [h1.1,oeq_eq h1.2]
   ·cases h1
def heq (h g:AH):Bool:=h.size == g.size && teq h.tree g.tree
theorem heq_get {h g:AH} (e:heq h g=true):h.size=g.size∧∀ k,h.get k=g.get k:=by
 unfold heq at e
 simp only [Bool.and_eq_true,beq_iff_eq] at e
 exact ⟨e.1,fun k=>by unfold AH.get;rw [teq_eq e.2]⟩
def chunk (z:Nat):Nat→List Value→List Value
 | 0,_=>[]
 | n + 1,l=>(if z=1 then l.headD undef else .agg (l.take z).toArray)::chunk z n (l.drop z)
def frz (P:Program) (v:Value) (h:AH):Option (Value × AH):=match v with
 | .slice (some ⟨k,off,none⟩) len cap=>match h.get k with
  | some (.cells c e fz,s)=>match P.info? e with
   | some i=>let l:=chunk i.size len (c.extract off (off + len * i.size)).toList
    if fz=(0,0)∧0 < i.size∧len ≤ cap∧off + len * i.size ≤ c.size∧l.length=len∧(l.all fun v=>v.cells.size == i.size)=true∧veq.vall 60 (flatC l) (c.extract off (off + len * i.size)).toList=true then
     some (VSl l,h.put k (some (.cells c e (0,1),s))) else none
   | none=>none
  | _=>none
 | _=>none
theorem frz_gh {P:Program} {v v':Value} {h h':AH} (hh:frz P v h=some (v',h')):Gh P h v h' v':=by
 unfold frz at hh
 split at hh
 case h_2=>cases hh
 rename_i k off len cap
 split at hh
 case h_2=>cases hh
 rename_i c e fz s hg
 split at hh
 case h_2=>cases hh
 rename_i i hi
 simp only at hh
 split at hh
 case isFalse=>cases hh
 rename_i hc
 obtain ⟨rfl,h1,h2,h3,h4,h5,h6⟩:=hc
 cases hh
 refine Gh.slice hg h1 (fun v hv=>by simpa using List.all_eq_true.1 h5 v hv) h4 h2 (fun j v hv=>?_) h3
 rw [vall_eq _ _ _ h6] at hv
 rw [Array.getElem?_toList,Array.getElem?_extract] at hv
 split at hv
 ·exact hv
 ·cases hv
theorem frz_logs {P:Program} {v v':Value} {h h':AH} (hh:frz P v h=some (v',h')):Logs h h':=by
 unfold frz at hh
 split at hh
 case h_2=>cases hh
 split at hh
 case h_2=>cases hh
 split at hh
 case h_2=>cases hh
 simp only at hh
 split at hh
 case isFalse=>cases hh
 cases hh
 exact .put _ _ _
def modeOf:HX→Option DM
 | .normal | .ret=>some .ret
 | .panic v=>some (.pan v)
 | _=>none
def resM (P:Program) (h:AH) (res:List ResultVar) (fr:Bool) (x:HX × AA × AH):Option (Bool × Value × Bool × AH):=match modeOf x.1 with
 | some m=>match dAll P x.2.1.rnd.dfs x.2.2 m with
  | some (h',.ret)=>match resultsOf P x.2.1 h' res with
   | some vs=>if fr then match frz P (oneOf vs) h' with
    | some r=>some (false,r.1,tidy h r.2 r.1)
    | none=>some (false,oneOf vs,tidy h h' (oneOf vs))
    else some (false,oneOf vs,tidy h h' (oneOf vs))
   | none=>none
  | some (h',.pan v)=>some (true,v,tidy h h' v)
  | _=>none
 | none=>none
theorem dOps_logs {P:Program} {ops:Array Oper}:∀ (l:List Nat) {a:AA} {h:AH} {m:DM} {a₂:AA} {h₂:AH} {m₂:DM},dOps P ops l a h m=some (a₂,h₂,m₂)→Logs h h₂:=by
 intro l
 induction l with
 | nil=>intro a h m a₂ h₂ m₂ hh;cases hh;exact .refl _
 | cons i rest ih =>
  intro a h m a₂ h₂ m₂ hh
  simp only [dOps] at hh
  split at hh
  ·exact ih hh
  ·split at hh
   case isFalse=>cases hh
   split at hh
   ·split at hh
    ·split at hh <;> exact ih hh
    ·split at hh
     ·rename_i hop;exact (absOp_logs hop).trans (ih hh)
     ·rename_i hop;exact (absOp_logs hop).trans (ih hh)
     ·cases hh
   ·exact ih hh
theorem dCode_logs {P:Program}:∀ (c:Code) {a:AA} {h:AH} {m:DM} {e:AX} {a₂:AA} {h₂:AH} {m₂:DM},dCode P c a h m=some (e,a₂,h₂,m₂)→Logs h h₂:=by
 intro c
 induction c with
 | skip=>intro a h m e a₂ h₂ m₂ hh;cases hh;exact .refl _
 | label l=>intro a h m e a₂ h₂ m₂ hh;cases hh;exact .refl _
 | ret=>intro a h m e a₂ h₂ m₂ hh;cases hh;exact .refl _
 | region id ops draw =>
  intro a h m e a₂ h₂ m₂ hh
  simp only [dCode] at hh
  split at hh
  ·cases hh
  split at hh
  ·rename_i hops;cases hh;exact dOps_logs _ hops
  ·cases hh
 | seq p q ihp ihq =>
  intro a h m e a₂ h₂ m₂ hh
  simp only [dCode] at hh
  split at hh
  ·rename_i hp;exact (ihp hp).trans (ihq hh)
  ·exact ihp hh
 | cond c p q ihp ihq =>
  intro a h m e a₂ h₂ m₂ hh
  simp only [dCode] at hh
  split at hh
  ·exact ihp hh
  ·exact ihq hh
  ·cases hh
 | _=>intro a h m e a₂ h₂ m₂ hh;cases hh
theorem dAll_logs {P:Program}:∀ (l:List Value) {h:AH} {m:DM} {y:AH × DM},dAll P l h m=some y→Logs h y.1:=by
 intro l
 induction l with
 | nil=>intro h m y hh;cases hh;exact .refl _
 | cons v l ih =>
  intro h m y hh
  unfold dAll at hh
  split at hh
  ·rename_i e;cases e
  ·rename_i h m f first cap l₀ e
   cases e
   split at hh
   case h_2=>cases hh
   rename_i h' m' hrun
   refine Logs.trans ?_ (ih hh)
   unfold dRun at hrun
   split at hrun
   case h_2=>cases hrun
   split at hrun
   ·cases hrun
   split at hrun
   case h_2=>cases hrun
   split at hrun
   ·rename_i hc
    split at hrun
    ·cases hrun;exact dCode_logs _ hc
    ·cases hrun
   ·rename_i hc
    split at hrun
    ·cases hrun;exact dCode_logs _ hc
    ·cases hrun
   ·cases hrun
  ·cases hh
theorem resM_eq {P:Program} {h:AH} {res:List ResultVar} {fr:Bool} {x:HX × AA × AH} {s:Bool × Value × Bool × AH} (hh:resM P h res fr x=some s) :
  ∃ m y,modeOf x.1=some m∧dAll P x.2.1.rnd.dfs x.2.2 m=some y∧Logs x.2.2 y.1∧((s.1=true∧y.2=.pan s.2.1∧s.2.2=tidy h y.1 s.2.1) ∨
   (s.1=false∧y.2=.ret∧∃ vs g,resultsOf P x.2.1 y.1 res=some vs∧Gh P y.1 (oneOf vs) g s.2.1∧Logs y.1 g∧s.2.2=tidy h g s.2.1)):=by
 unfold resM at hh
 split at hh
 case h_2=>cases hh
 rename_i m hm
 split at hh
 ·rename_i h' hd
  refine ⟨m,(h',.ret),hm,hd,dAll_logs _ hd,.inr ?_⟩
  split at hh
  case h_2=>cases hh
  rename_i vs hvs
  have plain:some (false,oneOf vs,tidy h h' (oneOf vs))=some s→s.1=false∧DM.ret=.ret∧∃ vs g,resultsOf P x.2.1 h' res=some vs∧Gh P h' (oneOf vs) g s.2.1∧Logs h' g∧s.2.2=tidy h g s.2.1:=by
   intro e
   have e0:=congrArg Prod.fst (Option.some.inj e)
   have e1:=congrArg (fun x=>x.2.1) (Option.some.inj e)
   have e2:=congrArg (fun x=>x.2.2) (Option.some.inj e)
   simp only at e0 e1 e2
   exact ⟨e0.symm,rfl,vs,h',hvs,by rw [← e1];exact .refl P h' _,.refl _,by rw [← e2,← e1]⟩
  split at hh
  ·split at hh
   ·rename_i r hr
    have e0:=congrArg Prod.fst (Option.some.inj hh)
    have e1:=congrArg (fun x=>x.2.1) (Option.some.inj hh)
    have e2:=congrArg (fun x=>x.2.2) (Option.some.inj hh)
    simp only at e0 e1 e2
    have hr':frz P (oneOf vs) h' = some (r.1,r.2):=hr
    exact ⟨e0.symm,rfl,vs,r.2,hvs,by rw [← e1];exact frz_gh hr',frz_logs hr',by rw [← e2,← e1]⟩
   ·exact plain hh
  ·exact plain hh
 ·rename_i h' v hd
  have e0:=congrArg Prod.fst (Option.some.inj hh)
  have e1:=congrArg (fun x=>x.2.1) (Option.some.inj hh)
  have e2:=congrArg (fun x=>x.2.2) (Option.some.inj hh)
  simp only at e0 e1 e2
  exact ⟨m,(h',.pan v),hm,hd,dAll_logs _ hd,.inl ⟨e0.symm,by rw [e1],by rw [← e2,← e1]⟩⟩
 ·cases hh
def oneF (P:Program) (h:AH) (res:List ResultVar) (fr:Bool):Outs→Option (Bool × Value × Bool × AH)
 | []=>none
 | x::l=>match resM P h res fr x with
  | some r=>if l.all fun y=>match resM P h res fr y with
   | some s=>s.1 == r.1 && veq 60 s.2.1 r.2.1 && heq s.2.2.2 r.2.2.2
   | none=>false
   then some r else none
  | none=>none
def oneM (P:Program) (h:AH) (res:List ResultVar) (L:Outs):Option (Bool × Value × Bool × AH):=match oneF P h res false L with
 | some r=>some r
 | none=>oneF P h res true L
theorem oneM_eq {P:Program} {h:AH} {res:List ResultVar} {L:Outs} {r:Bool × Value × Bool × AH} (hh:oneM P h res L=some r) :
  (∃ x fr,x ∈ L∧resM P h res fr x=some r)∧∃ fr,∀ x ∈ L,∃ s,resM P h res fr x=some s∧s.1=r.1∧s.2.1=r.2.1∧s.2.2.2.size=r.2.2.2.size∧∀ k,s.2.2.2.get k=r.2.2.2.get k:=by
 have key:∀ fr,oneF P h res fr L=some r→(∃ x fr,x ∈ L∧resM P h res fr x=some r)∧∃ fr,∀ x ∈ L,∃ s,resM P h res fr x=some s∧s.1=r.1∧s.2.1=r.2.1∧s.2.2.2.size=r.2.2.2.size∧∀ k,s.2.2.2.get k=r.2.2.2.get k:=by
  intro fr hh
  cases L with
  | nil=>simp [oneF] at hh
  | cons y l =>
   simp only [oneF] at hh
   split at hh
   case h_2=>cases hh
   rename_i s hs
   split at hh
   case isFalse=>cases hh
   rename_i hall
   cases hh
   refine ⟨⟨y,fr,by simp,hs⟩,fr,fun x hx=>?_⟩
   rcases List.mem_cons.1 hx with rfl | hx
   ·exact ⟨_,hs,rfl,rfl,rfl,fun _=>rfl⟩
   ·have:=List.all_eq_true.1 hall x hx
    split at this
    ·rename_i s2 hs2
     simp only [Bool.and_eq_true,beq_iff_eq] at this
     obtain ⟨g1,g2⟩:=heq_get this.2
     exact ⟨s2,hs2,this.1.1,veq_eq _ _ _ this.1.2,g1,g2⟩
    ·cases this
 unfold oneM at hh
 split at hh
 ·rename_i s hs;cases hh;exact key false hs
 ·exact key true hh
def fnStep (P:Program) (call:FCall) (code:CodeF) (n:Nat):FCall:=fun f args h=>match P.funcs[f]? with
 | some fn=>match fn.body with
  | some c=>match codeM P call code n c (argA args.toList fn.ntmps) { h with log:=[] } with
   | some L=>oneM P h fn.results.toList L
   | none=>none
  | none=>none
 | none=>none
theorem fnStep_logs {P:Program} {call:FCall} {code:CodeF} (hcl:FLogs call) (hcd:CodeL code) (n:Nat):∀ f args h p v q h',fnStep P call code n f args h=some (p,v,q,h')→Logs h h'∧(q=false→h' = h):=by
 intro f args h p v q h' hh
 unfold fnStep at hh
 split at hh
 case h_2=>cases hh
 split at hh
 case h_2=>cases hh
 split at hh
 case h_2=>cases hh
 rename_i L hL
 obtain ⟨⟨x,fr,hx,hr⟩,_⟩:=oneM_eq hh
 have hlg:=codeM_logs hcl hcd n _ _ _ _ hL x hx
 obtain ⟨m,y,g0,g1,g2,g3⟩:=resM_eq hr
 rcases g3 with ⟨_,_,g4⟩ | ⟨_,_,vs,g,_,_,g3,g4⟩
 ·have a1:(tidy h y.1 v).1=q:=(congrArg Prod.fst g4).symm
  have a2:(tidy h y.1 v).2=h':=(congrArg Prod.snd g4).symm
  rw [← a1,← a2]
  exact tidy_logs (hlg.trans g2)
 ·have a1:(tidy h g v).1=q:=(congrArg Prod.fst g4).symm
  have a2:(tidy h g v).2=h':=(congrArg Prod.snd g4).symm
  rw [← a1,← a2]
  exact tidy_logs (hlg.trans (g2.trans g3))
theorem fnStep_ok {P:Program} {call:FCall} {code:CodeF} (hcl:FOk P call) (hcd:CodeH P code) (hcl2:FLogs call) (hcd2:CodeL code) (n:Nat):FOk P (fnStep P call code n):=by
 intro f args h p v q h' hh
 refine ⟨fun _=>(fnStep_logs hcl2 hcd2 n f args h p v q h' hh).2,fun E w args' r ra=>?_⟩
 unfold fnStep at hh
 split at hh
 case h_2=>cases hh
 rename_i fn hf
 split at hh
 case h_2=>cases hh
 rename_i c hb
 split at hh
 case h_2=>cases hh
 rename_i L hL
 have r0:RW P E { h with log:=[] } w:=r.less (Nat.le_refl _) fun k y hk=>hk
 have hlogs:=codeM_logs hcl2 hcd2 n _ _ _ _ hL
 obtain ⟨_,fr,each⟩:=oneM_eq hh
 have hw:=codeM_H hcl hcd n c _ _ _ hL
 have hc:HC P f args.toList.toArray { h with log:=[] } fun res g=>∃ u g₀ g',res=resOf p u∧Gh P g u g₀ v∧Logs { h with log:=[] } g₀∧g' = (tidy h g₀ v).2∧g'.size=h'.size∧∀ k,g'.get k=h'.get k:=by
  refine HC.bodyW hf hb (hw.mono fun e a g hm=>?_)
  obtain ⟨s,s1,s2,s3,s4,s5⟩:=each _ hm
  have hl:=hlogs _ hm
  obtain ⟨m,y,t0,t1,t2,t3⟩:=resM_eq s1
  simp only at s2 s3 s4 s5 t0 t1 t2 t3
  have fin:bq (dAll P a.rnd.dfs g m) (fun y=>leftK P fn.results.toList a (fun res g=>∃ u g₀ g',res=resOf p u∧Gh P g u g₀ v∧Logs { h with log:=[] } g₀∧g' = (tidy h g₀ v).2∧g'.size=h'.size∧∀ k,g'.get k=h'.get k) y):=by
   refine bq_of t1 ?_
   obtain ⟨yh,ym⟩:=y
   rcases t3 with ⟨u1,u2,u3⟩ | ⟨u1,u2,vs,g₀,u3,u4,u5,u6⟩
   ·simp only at u2 u3
    rw [u2]
    have hp:p=true:=s2 ▸ u1
    exact ⟨s.2.1,yh,s.2.2.2,by rw [hp];rfl,by rw [← s3];exact .refl P _ _,hl.trans t2,by rw [← s3];exact congrArg Prod.snd u3,s4,s5⟩
   ·simp only at u2 u3 u4 u5 u6
    rw [u2]
    have hp:p=false:=s2 ▸ u1
    exact bq_of u3 ⟨oneOf vs,g₀,s.2.2.2,by rw [hp];rfl,by rw [← s3];exact u4,hl.trans (t2.trans u5),by rw [← s3];exact congrArg Prod.snd u6,s4,s5⟩
  cases e with
  | normal=>cases t0;exact fin
  | ret=>cases t0;exact fin
  | panic w=>cases t0;exact fin
  | exit i=>cases t0
  | goto i=>cases t0
 rw [Array.toArray_toList] at hc
 refine (hc E w args' r0 ra).mono ?_
 rintro e w' ⟨E',res,g,q1,q2,q3,u,g₀,g',rfl,hgh,hl,rfl,hsz,hget⟩
 have fin:∀ u',RV E' u u'→∃ E2,RW P E2 h' w'∧Ext E w E2 w'∧RV E2 v u':=by
  intro u' hu
  obtain ⟨E1,r1,x1,v1⟩:=hgh E' w' u' q2 hu
  obtain ⟨E2,p1,p2,p3⟩:=tidy_ok r r1 (q3.trans x1) v1 hl
  exact ⟨E2,p1.less (by omega) (fun k y hk=>by rw [hget];exact hk),p2,p3⟩
 cases p with
 | false =>
  cases e with
  | returned u' =>
   obtain ⟨E2,p1,p2,p3⟩:=fin u' q1
   exact ⟨E2,.ret v,h',p3,p1,p2,rfl,rfl⟩
  | _=>cases q1
 | true =>
  cases e with
  | panicked chain =>
   obtain ⟨u',hc',hu⟩:=q1
   obtain ⟨E2,p1,p2,p3⟩:=fin u' hu
   exact ⟨E2,.pan v,h',⟨u',hc',p3⟩,p1,p2,rfl,rfl⟩
  | _=>cases q1
def lv (P:Program) (X:CallF):Nat→FCall × CodeF
 | 0=>(fun _ _ _=>none,fun _ _ _=>none)
 | n + 1=>(fun f args h=>match X f args h with
  | some (v,q,h')=>some (false,v,q,h')
  | none=>fnStep P (lv P X n).1 (lv P X n).2 n f args h,codeM P (lv P X n).1 (lv P X n).2 n)
theorem lv_logs (P:Program) {X:CallF} (hX:CallLogs X):∀ n,FLogs (lv P X n).1∧CodeL (lv P X n).2:=by
 intro n
 induction n with
 | zero=>exact ⟨fun f args h p v q h' hh=>by (cases hh),fun c a h L hh=>by (cases hh)⟩
 | succ n ih =>
  refine ⟨fun f args h p v q h' hh=>?_,codeM_logs ih.1 ih.2 n⟩
  simp only [lv] at hh
  split at hh
  ·rename_i v q h' hr
   cases hh
   exact hX f args h _ _ _ hr
  ·exact (fnStep_logs ih.1 ih.2 n f args h p v q h' hh).1
theorem lv_ok (P:Program) {X:CallF} (hX:CallOk P X) (hl:CallLogs X):∀ n,FOk P (lv P X n).1∧CodeH P (lv P X n).2:=by
 intro n
 induction n with
 | zero=>exact ⟨fun f args h p v q h' hh=>by (cases hh),fun c a h L hh=>by (cases hh)⟩
 | succ n ih =>
  have il:=lv_logs P hl n
  refine ⟨fun f args h p v q h' hh=>?_,codeM_H ih.1 ih.2 n⟩
  simp only [lv] at hh
  split at hh
  ·rename_i v q h' hr
   cases hh
   exact ⟨fun _=>(hX f args h _ _ _ hr).1,HC.of_call hX hr⟩
  ·exact fnStep_ok ih.1 ih.2 il.1 il.2 n f args h p v q h' hh
abbrev run (P:Program) (n:Nat):FCall:=(lv P (fun _ _ _=>none) n).1
end Go.Ab
end
section
namespace Go.Ab
def laidL (f:DataW Unit→Option (List Value)) (s:Nat):List (DataW Unit)→Option (List Value)
 | []=>some []
 | d::ds=>match f d,laidL f s ds with
  | some v,some vs=>if v.length=s then some (v++vs) else none
  | _,_=>none
def laidF (P:Program) (f:TypeId→DataW Unit→Option (List Value)):Nat→List Field→List (DataW Unit)→Option (List Value)
 | _,[],[]=>some []
 | off,g::gs,d::ds=>if g.offset=off then match f g.type d with
  | some v=>if v.length=P.cellsOf g.type then match laidF P f (off + v.length) gs ds with
   | some vs=>some (v++vs)
   | none=>none
   else none
  | none=>none
  else none
 | _,_,_=>none
def laidC (P:Program):Nat→TypeId→DataW Unit→Option (List Value)
 | 0,_,_=>none
 | n + 1,t,d=>match P.underlying t with
  | some (.int _)=>match d with
   | .lit (.int k x)=>some [.int k x]
   | _=>none
  | some .bool=>match d with
   | .lit (.bool b)=>some [.bool b]
   | _=>none
  | some .string=>match d with
   | .lit (.string l)=>some [.string ⟨l.toArray⟩]
   | _=>none
  | some (.array m e)=>match d with
   | .agg ds=>if P.cellsOf t=m * P.cellsOf e then laidL (laidC P n e) (P.cellsOf e) ds else none
   | _=>none
  | some (.struct fs)=>match d with
   | .agg ds=>match laidF P (laidC P n) 0 fs.toList ds with
    | some vs=>if vs.length=P.cellsOf t then some vs else none
    | none=>none
   | _=>none
  | _=>none
theorem chunks_eq {α:Type} {s:Nat}:∀ {m:Nat} {a b:List α},a.length=m * s→b.length=m * s→(∀ i,i < m→(a.drop (i * s)).take s=(b.drop (i * s)).take s)→a=b:=by
 intro m
 induction m with
 | zero =>
  intro a b ha hb _
  have e1:a=[]:=List.eq_nil_of_length_eq_zero (by simpa using ha)
  have e2:b=[]:=List.eq_nil_of_length_eq_zero (by simpa using hb)
  rw [e1,e2]
 | succ m ih =>
  intro a b ha hb h
  have h0:=h 0 (by omega)
  simp only [Nat.zero_mul,List.drop_zero] at h0
  have e:a.drop s=b.drop s:=by
   refine ih (by rw [List.length_drop,ha,Nat.succ_mul];omega) (by rw [List.length_drop,hb,Nat.succ_mul];omega) fun i hi=>?_
   have:=h (i + 1) (by omega)
   rw [List.drop_drop,List.drop_drop]
   rw [show s + i * s=(i + 1) * s by rw [Nat.succ_mul];omega]
   exact this
  rw [← List.take_append_drop s a,← List.take_append_drop s b,h0,e]
theorem laidL_eq {f:DataW Unit→Option (List Value)} {s:Nat}:∀ {ds:List (DataW Unit)} {vs:List Value},laidL f s ds=some vs→vs.length=ds.length * s∧∀ (i:Nat) d,ds[i]?=some d→∃ v,f d=some v∧(vs.drop (i * s)).take s=v:=by
 intro ds
 induction ds with
 | nil=>intro vs h;cases h;exact ⟨by simp,fun i d hd=>by simp at hd⟩
 | cons d ds ih =>
  intro vs h
  simp only [laidL] at h
  split at h
  ·rename_i v ws hv hw
   split at h
   ·rename_i hl
    cases h
    obtain ⟨h1,h2⟩:=ih hw
    refine ⟨by rw [List.length_append,List.length_cons,Nat.succ_mul];omega,fun i x hx=>?_⟩
    cases i with
    | zero =>
     simp at hx;subst hx
     exact ⟨v,hv,by simp [← hl]⟩
    | succ i =>
     obtain ⟨u,g1,g2⟩:=h2 i x (by simpa using hx)
     refine ⟨u,g1,?_⟩
     rw [show (i + 1) * s=v.length + i * s by rw [hl,Nat.succ_mul];omega,← List.drop_drop,List.drop_left]
     exact g2
   ·cases h
  ·cases h
theorem laidF_eq {P:Program} {f:TypeId→DataW Unit→Option (List Value)} {cs:List Value} {g:Field→Option (DataW Unit × List MemPlace)} (hg:∀ x y v,g x=some y→f x.type y.1=some v→v.length=P.cellsOf x.type→(cs.drop x.offset).take (P.cellsOf x.type)=v) :
  ∀ {fs:List Field} {ds:List (DataW Unit)} {off:Nat} {vs:List Value} {xs:List (DataW Unit × List MemPlace)},laidF P f off fs ds=some vs→fs.mapM g=some xs→ds=xs.map (·.1)→(cs.drop off).take vs.length=vs:=by
 intro fs
 induction fs with
 | nil =>
  intro ds off vs xs h hm hd
  cases ds with
  | nil=>simp only [laidF] at h;cases h;rfl
  | cons=>simp only [laidF] at h;cases h
 | cons x fs ih =>
  intro ds off vs xs h hm hd
  cases ds with
  | nil=>simp only [laidF] at h;cases h
  | cons d ds =>
   simp only [laidF] at h
   split at h
   case isFalse=>cases h
   rename_i hoff
   split at h
   case h_2=>cases h
   rename_i v hv
   split at h
   case isFalse=>cases h
   rename_i hl
   split at h
   case h_2=>cases h
   rename_i ws hw
   cases h
   rw [List.mapM_cons] at hm
   simp only [Option.bind_eq_bind,Option.bind_eq_some_iff,Option.pure_def,Option.some.injEq] at hm
   obtain ⟨y,hy,ys,hys,rfl⟩:=hm
   simp only [List.map_cons,List.cons.injEq] at hd
   obtain ⟨rfl,rfl⟩:=hd
   have h1:=hg x y v hy hv hl
   have h2:=ih hw hys rfl
   rw [hoff,← hl] at h1
   rw [List.length_append,List.take_add,h1,List.drop_drop]
   rw [h2]
theorem laidC_eq {P:Program} {w:World} {base:Nat} {sp:Nat→Bool} {held:Bool}:∀ (n:Nat) {fuel:Nat} {t:TypeId} {cs vs:List Value} {d:DataW Unit} {p:List MemPlace},
  laidC P n t d=some vs→DataW.trod (fun _=>()) P w base sp held fuel t cs=some (d,p)→cs=vs:=by
 intro n
 induction n with
 | zero=>intro fuel t cs vs d p h;cases h
 | succ n ih =>
  intro fuel t cs vs d p h ht
  cases fuel with
  | zero=>cases ht
  | succ fuel =>
   unfold laidC at h
   unfold DataW.trod at ht
   split at h
   ·rename_i k hu
    rw [hu] at ht
    simp only at ht
    split at ht <;> first
     | (cases ht;done)
     | skip
    ·rename_i e;cases e
    ·rename_i k1 k2 m e
     cases e
     split at ht
     ·rename_i hk
      cases ht
      simp only at h
      cases h
      rw [hk.1]
     ·cases ht
    all_goals (rename_i e;cases e)
   ·rename_i hu
    rw [hu] at ht
    simp only at ht
    split at ht <;> first
     | (cases ht;done)
     | skip
    ·cases ht;simp only at h;cases h;rfl
    all_goals (rename_i e;cases e)
   ·rename_i hu
    rw [hu] at ht
    simp only at ht
    split at ht <;> first
     | (cases ht;done)
     | skip
    all_goals first
     | (rename_i e;cases e;done)
     | skip
    split at ht
    ·cases ht
     simp only at h
     cases h
     rfl
    ·cases ht
   ·rename_i m e hu
    rw [hu] at ht
    simp only at ht
    split at ht
    ·rename_i hlen
     rw [Option.map_eq_some_iff] at ht
     obtain ⟨xs,hx,hxe⟩:=ht
     cases hxe
     simp only at h
     split at h
     case isFalse=>cases h
     rename_i hcells
     obtain ⟨h1,h2⟩:=laidL_eq h
     obtain ⟨g1,g2⟩:=mapM_get hx
     rw [List.length_range] at g1
     refine chunks_eq (m:=m) (s:=P.cellsOf e) (by rw [hlen,hcells]) (by rw [h1,List.length_map,← g1]) fun i hi=>?_
     obtain ⟨y,k1,k2⟩:=g2 i i (by rw [List.getElem?_range hi])
     obtain ⟨v,k3,k4⟩:=h2 i y.1 (by rw [List.getElem?_map,k2];rfl)
     rw [ih k3 k1,k4]
    ·cases ht
   ·rename_i fs hu
    rw [hu] at ht
    simp only at ht
    split at ht
    ·rename_i hlen
     rw [Option.map_eq_some_iff] at ht
     obtain ⟨xs,hx,hxe⟩:=ht
     cases hxe
     simp only at h
     split at h
     case h_2=>cases h
     rename_i ws hw
     split at h
     case isFalse=>cases h
     rename_i hl
     cases h
     have:=laidF_eq (cs:=cs) (fun x y v hy hv _=>ih hv hy) hw hx rfl
     rw [List.drop_zero,hl,← hlen,List.take_length] at this
     exact this
    ·cases ht
   ·cases h
def rowT (P:Program) (g:Nat):Option TypeId:=(((begin P (fun _ _=>0) default).world.heap[g]?).bind Obj.row?).map (·.2)
def laid1 (P:Program) (x:String × DataW Unit):Option (Nat × Array Value × TypeId):=match P.globalNamed x.1 with
 | some g=>match (P.globals[g]?).map (·.type) with
  | some t=>match laidC P 20 t x.2,rowT P g with
   | some vs,some e=>if vs.all plain then some (g,vs.toArray,e) else none
   | _,_=>none
  | none=>none
 | none=>none
def laidT (P:Program):List (String × DataW Unit)→T (Obj × Option Nat)
 | []=>.leaf
 | x::l=>match laid1 P x with
  | some (g,c,e)=>(laidT P l).put (g + 1) (g + 1) (some (.cells c e (0,1),none))
  | none=>laidT P l
def AH.laid (P:Program) (l:List (String × DataW Unit)):AH:=⟨laidT P l,P.globals.size,[]⟩
theorem laidT_get {P:Program} {w:World} (hv:∀ g e,rowT P g=some e→g < P.globals.size→∃ c,w.heap[g]?=some (.cells c e)):∀ {l:List (String × DataW Unit)} {ps:List MemPlace},DataW.LaidVars P w l ps →
  ∀ k o s,(laidT P l).get (k + 1)=some (o,s)→s=none∧k < P.globals.size∧∃ c e fz,o=.cells c e (0,1)∧w.heap[k]?=some (.cells c e fz)∧∀ v ∈ c.toList,plain v=true:=by
 intro l
 induction l with
 | nil=>intro ps _ k o s h;simp [laidT,T.get] at h
 | cons x l ih =>
  intro ps hl k o s h
  obtain ⟨n,d⟩:=x
  obtain ⟨g,t,cs,fuel,p,q,h1,h2,h3,h4,h5,_⟩:=hl
  simp only [laidT] at h
  split at h
  ·rename_i g' c e he
   rw [T.get_put _ _ _ _ _ (by omega) (Nat.le_refl _) (by omega)] at h
   split at h
   ·rename_i hk
    have hk':k=g':=by omega
    subst hk'
    cases h
    unfold laid1 at he
    rw [h1] at he
    simp only [h2] at he
    split at he
    case h_2=>cases he
    rename_i vs e' hvs hrow
    split at he
    case isFalse=>cases he
    rename_i hpl
    cases he
    have hlt:k < P.globals.size:=by
     cases hg:P.globals[k]? with
     | none=>rw [hg] at h2;cases h2
     | some _=>exact (Array.getElem?_eq_some_iff.1 hg).1
    obtain ⟨c',hc'⟩:=hv k e hrow hlt
    unfold World.var? at h3
    rw [h1] at h3
    simp only [Option.bind_some,hc'] at h3
    cases h3
    have:=laidC_eq 20 hvs h4
    refine ⟨rfl,hlt,vs.toArray,e,(0,0),rfl,?_,fun v hv=>List.all_eq_true.1 hpl v (by simpa using hv)⟩
    rw [hc',← this]
   ·exact ih h5 k o s h
  ·exact ih h5 k o s h
theorem rw_known {P:Program} {w:World} (hsz:P.globals.size ≤ w.heap.size) {h:AH} (hs:h.size=P.globals.size) (hget:∀ k o s,h.get k=some (o,s)→s=none∧k < P.globals.size∧∃ c e fz c',o=.cells c e (0,1) ∧
  w.heap[k]?=some (.cells c' e fz)∧c.size=c'.size∧(∀ (i:Nat) v,c[i]?=some v→c'[i]?=some v)∧∀ v ∈ c.toList,plain v=true):RW P (stillR P w) h w:=by
 have b:=rw_bare (P:=P) hsz
 refine ⟨b.glob,fun k n hk=>by rw [hs];exact b.dom k n hk,b.sdom,fun k o s hk=>?_,fun j k n hj hk gj gk=>?_,b.frz,fun k o s n hk hn hf=>?_,b.sep⟩
 ·obtain ⟨rfl,hlt,c,e,fz,c',rfl,hw,hle,hcc,hp⟩:=hget k o s hk
  refine ⟨k,_,b.glob k hlt,hw,.ice (Nat.le_of_eq hle) (fun _=>hle) fun i v v' h1 h2=>?_,rfl⟩
  rw [hcc i v h1] at h2
  cases h2
  exact RV.of_plain (hp v (List.mem_of_getElem? (by rw [Array.getElem?_toList];exact h1)))
 ·have hlj:=(b.dom j n hj).1
  have hlk:=(b.dom k n hk).1
  have e1:=b.glob j hlj
  have e2:=b.glob k hlk
  rw [hj] at e1;rw [hk] at e2
  cases e1;cases e2;rfl
 ·obtain ⟨rfl,_,c,e,fz,c',rfl,_⟩:=hget k o s hk
  rfl
theorem laid_get {P:Program} {w:World} {l:List (String × DataW Unit)} (hv:varsB P=true) (hs:w.ShapedOpen P) (hh:(l.filter fun x=>x.2.handleName?.isSome).isEmpty=true) (hl:laidMetH P l w) :
  ∀ k o s,(AH.laid P l).get k=some (o,s)→s=none∧k < P.globals.size∧∃ c e fz,o=.cells c e (0,1)∧w.heap[k]?=some (.cells c e fz)∧∀ v ∈ c.toList,plain v=true:=by
 unfold laidMetH at hl
 rw [List.isEmpty_iff] at hh
 rw [hh] at hl
 obtain ⟨ps,hl,_⟩:=hl
 exact laidT_get (P:=P) (w:=w) (fun g e he hg=>by
  have h1:=List.all_eq_true.1 hv g (List.mem_range.2 hg)
  unfold rowT at he
  rw [Option.map_eq_some_iff] at he
  obtain ⟨⟨zero,t⟩,hx,rfl⟩:=he
  obtain ⟨cs,h2,_⟩:=hs.1 g zero t hg hx
  exact ⟨cs,h2⟩) hl
def rowT1 (P:Program) (g:Nat):Option TypeId:=(((begin P (fun _ _=>0) default).world.heap[g]?).bind Obj.row?).bind fun x=>if x.1.size=1 then some x.2 else none
def AH.laidM (P:Program) (l:List (String × DataW Unit)) (g:Nat) (e:TypeId) (m:Int):AH:=(AH.laid P l).put g (some (.cells #[.int .i64 m] e (0,1),none))
theorem rw_laidM {P:Program} {w:World} {l:List (String × DataW Unit)} (hv:varsB P=true) (hs:w.ShapedOpen P) (hh:(l.filter fun x=>x.2.handleName?.isSome).isEmpty=true) (hl:laidMetH P l w) {g:Nat} {e:TypeId} {m:Int}
  (hg:g < P.globals.size) (he:rowT1 P g=some e) (hm:w.cell? ⟨g,0,none⟩=some (.int .i64 m)):RW P (stillR P w) (AH.laidM P l g e m) w :=
 rw_known (vars_size (vars_rows hv hs)) rfl fun k o s hk=>by
  unfold AH.laidM at hk
  rw [AH.get_put] at hk
  split at hk
  ·rename_i e1;subst e1;cases hk
   have h1:=List.all_eq_true.1 hv k (List.mem_range.2 hg)
   unfold rowT1 at he
   rw [Option.bind_eq_some_iff] at he
   obtain ⟨⟨zero,t⟩,hx,he⟩:=he
   split at he
   case isFalse=>cases he
   rename_i hz1
   cases he
   obtain ⟨cs,h2,hsz,_⟩:=hs.1 k zero t hg hx
   have h3:cs[0]?=some (.int .i64 m):=by simpa [World.cell?,h2] using hm
   refine ⟨rfl,hg,#[.int .i64 m],t,_,cs,rfl,h2,?_,fun i v hi=>?_,fun v hv=>?_⟩
   ·have:zero.size=1:=hz1;simp;omega
   ·cases i with
    | zero=>simp at hi;rw [← hi];exact h3
    | succ i=>simp at hi
   ·simp at hv;subst hv;rfl
  ·obtain ⟨h1,h2,c,e,fz,h3,h4,h5⟩:=laid_get hv hs hh hl k o s hk
   exact ⟨h1,h2,c,e,fz,c,h3,h4,rfl,fun _ _ h=>h,h5⟩
end Go.Ab
end
