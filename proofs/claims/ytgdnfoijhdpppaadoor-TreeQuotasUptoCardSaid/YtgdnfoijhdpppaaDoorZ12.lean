import Derived.Test.YtgdnfoijhdpppaaDoorZ11
set_option linter.unusedVariables false
set_option linter.unusedSimpArgs false
section
namespace Go.Ab
inductive Res where
 | ret (v:Value)
 | pan (v:Value)
inductive HX where
 | normal
 | exit (id:Nat)
 | goto (l:Nat)
 | ret
 | panic (v:Value)
def HX.rel (E:Ren):HX→Exit→Prop
 | .normal,.normal=>True
 | .exit i,.exit j=>i=j
 | .goto i,.goto j=>i=j
 | .ret,.ret=>True
 | .panic v,.panic chain=>∃ v',chain=[{ v:=v',recovered:=false }]∧RV E v v'
 | _,_=>False
def Res.rel (E:Ren):Res→Ending→Prop
 | .ret v,.returned v'=>RV E v v'
 | .pan v,.panicked chain=>∃ v',chain=[{ v:=v',recovered:=false }]∧RV E v v'
 | _,_=>False
def HC (P:Program) (f:FuncId) (args:Array Value) (h:AH) (Q:Res→AH→Prop):Prop:=∀ E w args',RW P E h w→RA E args args' →
 Calls P f args' w fun e w'=>∃ E' r h',Res.rel E' r e∧RW P E' h' w'∧Ext E w E' w'∧Q r h'
theorem HC.mono {P:Program} {f:FuncId} {args:Array Value} {h:AH} {Q R:Res→AH→Prop} (a:HC P f args h Q) (hr:∀ r h',Q r h'→R r h'):HC P f args h R :=
 fun E w args' r ra=>(a E w args' r ra).mono fun e w' ⟨E',v,h',e1,e2,e3,e4⟩=>⟨E',v,h',e1,e2,e3,hr v h' e4⟩
def Ex (P:Program) (f:FuncId) (args:Array Value) (h:AH) (v:Value) (h':AH):Prop:=HC P f args h fun r g=>r=.ret v∧g=h'
theorem HC.to_HF {P:Program} {f:FuncId} {args:Array Value} {h:AH} {Q:Value→AH→Prop} (a:HC P f args h fun r g=>∃ v,r=.ret v∧Q v g):HF P f args h Q :=
 fun E w args' r ra=>(a E w args' r ra).mono fun e w' ⟨E',r',h',e1,e2,e3,v,e4,e5⟩=>by
  subst e4
  cases e with
  | returned v'=>exact ⟨E',v,v',h',rfl,e2,e3,e1,e5⟩
  | _=>cases e1
def markOf (n:Nat):Deferred:={ target:=.collected n,args:=#[] }
inductive XL (E:Ren):List Value→List Deferred→List Nat→Prop
 | nil:XL E [] [] []
 | mark {dfs:List Value} {ds:List Deferred} {ns:List Nat} (n:Nat) (h:XL E dfs ds ns):XL E dfs (markOf n::ds) (n::ns)
 | fn {dfs:List Value} {ds:List Deferred} {ns:List Nat} {v:Value} {f:Fn} {first cap:Array Value} (hv:RV E v (.func f first cap)) (h:XL E dfs ds ns):XL E (v::dfs) ({ target:=.fn f cap,args:=first }::ds) ns
theorem XL.mono {E E':Ren} (le:E.Le E') {dfs:List Value} {ds:List Deferred} {ns:List Nat} (h:XL E dfs ds ns):XL E' dfs ds ns:=by
 induction h with
 | nil=>exact .nil
 | mark n _ ih=>exact .mark n ih
 | fn hv _ ih=>exact .fn (hv.mono le) ih
theorem XL.inj {E E':Ren} {dfs dfs':List Value} {ds:List Deferred} {ns ns':List Nat} (h:XL E dfs ds ns) (h':XL E' dfs' ds ns'):ns=ns':=by
 induction h generalizing dfs' ns' with
 | nil=>cases h';rfl
 | mark n _ ih =>
  generalize hd:markOf n::_=ds' at h'
  cases h' with
  | nil=>cases hd
  | mark m h' =>
   injection hd with h1 h2
   subst h2
   have:n=m:=by injection h1 with h1;injection h1
   rw [this,ih h']
  | fn hv h'=>injection hd with h1;injection h1 with h1;cases h1
 | fn hv _ ih =>
  generalize hd:_::_=ds' at h'
  cases h' with
  | nil=>cases hd
  | mark m h'=>injection hd with h1;injection h1 with h1;cases h1
  | fn hv' h' =>
   injection hd with h1 h2
   subst h2
   exact ih h'
def XD (B:Nat) (E:Ren) (w:World) (dfs:List Value) (ds:List Deferred):Prop :=
 B ≤ w.heap.size∧∃ ns:List Nat,XL E dfs ds ns∧ns.Nodup∧∀ n ∈ ns,B ≤ n∧w.heap[n]?=some (.deferred (some []))∧∀ k,E.at_ k ≠ some n
theorem XD.nil (E:Ren) (w:World):XD w.heap.size E w [] []:=⟨Nat.le_refl _,[],.nil,List.nodup_nil,fun n h=>by cases h⟩
theorem XD.ext {B:Nat} {E E':Ren} {w w':World} {dfs:List Value} {ds:List Deferred} (h:XD B E w dfs ds) (x:Ext E w E' w'):XD B E' w' dfs ds:=by
 obtain ⟨h0,ns,h1,h2,h3⟩:=h
 refine ⟨Nat.le_trans h0 x.size,ns,h1.mono x.le,h2,fun n hn=>?_⟩
 obtain ⟨g1,g2,g3⟩:=h3 n hn
 have hlt:=(Array.getElem?_eq_some_iff.1 g2).1
 refine ⟨g1,by rw [x.frame n hlt g3];exact g2,fun k hk=>?_⟩
 rcases x.range k n hk with ⟨j,hj⟩ | hj
 ·exact g3 j hj
 ·omega
theorem XD.fn {B:Nat} {E:Ren} {w:World} {dfs:List Value} {ds:List Deferred} (h:XD B E w dfs ds) {v:Value} {f:Fn} {first cap:Array Value} (hv:RV E v (.func f first cap)) :
  XD B E w (v::dfs) ({ target:=.fn f cap,args:=first }::ds):=by
 obtain ⟨h0,ns,h1,h2,h3⟩:=h
 exact ⟨h0,ns,.fn hv h1,h2,h3⟩
def RD (E:Ren):Option Nat→Option Nat→Prop
 | none,none=>True
 | some k,some l=>E.at_ k=some l
 | _,_=>False
theorem RD.mono {E E':Ren} (le:E.Le E') {a b:Option Nat} (h:RD E a b):RD E' a b:=by
 cases a <;> cases b <;> first
  | exact h
  | exact le.at_ _ _ h
structure RX (B:Nat) (ro:Option Nat) (E:Ren) (w:World) (a:AA) (x:Act):Prop where
 rt:RT E a x.tmps
 rd:RD E a.rnd.loop ro
 xd:XD B E w a.rnd.dfs x.defers
theorem RX.next {B:Nat} {ro:Option Nat} {E E':Ren} {w w':World} {a a':AA} {x y:Act} (h:RX B ro E w a x) (e:Ext E w E' w') (rt:RT E' a' y.tmps) (hd:y.defers=x.defers) (hr:a'.rnd=a.rnd):RX B ro E' w' a' y :=
 ⟨rt,by rw [hr];exact h.rd.mono e.le,by rw [hd,hr];exact h.xd.ext e⟩
theorem AA.put_rnd (a:AA) (d:Option Tmp) (v:Value):(a.put d v).rnd=a.rnd:=by
 unfold AA.put
 split
 ·split <;> rfl
 ·rfl
theorem AA.keep_rnd (a:AA):∀ l,(a.keep l).rnd=a.rnd:=by
 intro l
 induction l with
 | nil=>rfl
 | cons t l ih =>
  simp only [AA.keep]
  split
  ·rfl
  ·exact ih
theorem RX.keep {B:Nat} {ro:Option Nat} {E:Ren} {w:World} {a:AA} {x:Act} (h:RX B ro E w a x) (l:List Nat):RX B ro E w (a.keep l) x :=
 ⟨h.rt.keep l,by rw [AA.keep_rnd];exact h.rd,by rw [AA.keep_rnd];exact h.xd⟩
def HPost (P:Program) (B:Nat) (ro:Option Nat) (E:Ren) (w:World) (Q:HX→AA→AH→Prop) (e:Exit) (y:Act) (w':World):Prop :=
 ∃ x a' h' E',HX.rel E' x e∧RW P E' h' w'∧Ext E w E' w'∧RX B ro E' w' a' y∧Q x a' h'
theorem HPost.ext {P:Program} {B:Nat} {ro:Option Nat} {E E₁:Ren} {w w₁:World} {Q:HX→AA→AH→Prop} (x:Ext E w E₁ w₁) {e:Exit} {y:Act} {w':World} (h:HPost P B ro E₁ w₁ Q e y w'):HPost P B ro E w Q e y w':=by
 obtain ⟨hx,a',h',E',h1,h2,h3,h4,h6⟩:=h
 exact ⟨hx,a',h',E',h1,h2,x.trans h3,h4,h6⟩
theorem HPost.mono {P:Program} {B:Nat} {ro:Option Nat} {E:Ren} {w:World} {Q R:HX→AA→AH→Prop} (hr:∀ e a h,Q e a h→R e a h) {e:Exit} {y:Act} {w':World} (h:HPost P B ro E w Q e y w'):HPost P B ro E w R e y w':=by
 obtain ⟨hx,a',h',E',h1,h2,h3,h4,h6⟩:=h
 exact ⟨hx,a',h',E',h1,h2,h3,h4,hr _ _ _ h6⟩
def HW (P:Program) (c:Code) (a:AA) (h:AH) (Q:HX→AA→AH→Prop):Prop:=∀ B ro E w x,RW P E h w→RX B ro E w a x→c.wpR ro P (HPost P B ro E w Q) x w
def LoopW (ro:Option Nat) (P:Program) (c:Code) (Q:Exit→Act→World→Prop) (a:Act) (w:World):Prop :=
 ∀ (b:Frame) (k:List Item) (cs:List Frame),b.roundOf=(Fr ro).round→∃ e a' w',Q e a' w'∧ArrivesIn (Machine.fenced P (Fr ro)) P (lone (b.atR a (.code c::.inLoop c::k)) cs w) b k cs e a' w'
theorem fr_calm {ro:Option Nat} {P:Program} {fr:Frame} {cs:List Frame} {w:World} (ha:fr.about P w=none):(lone fr cs w).fenced P (Fr ro):=fenced_calm (n:=0) (Fr_fn ro _) (Fr_room ro _) ha
theorem LoopW.round {ro:Option Nat} {P:Program} {c:Code} {Q:Exit→Act→World→Prop} {a:Act} {w:World} (h:c.wpR ro P (Exit.then (LoopW ro P c Q) Q) a w):LoopW ro P c Q a w:=by
 intro b k cs hro
 obtain ⟨e,a₁,w₁,hq,harr⟩:=h b (.inLoop c::k) cs hro (Fr_fn ro _) (Fr_room ro _)
 cases e with
 | normal =>
  obtain ⟨e₂,a₂,w₂,hq₂,harr₂⟩:=hq b k cs hro
  exact ⟨e₂,a₂,w₂,hq₂,.of_steps (StepsIn.trans harr (.one (fr_calm rfl) stepR_inLoop)) harr₂⟩
 | exit id=>exact ⟨_,a₁,w₁,hq,.pass (x:=.inLoop c) rfl (fun _ _=>.inl (by simp)) harr⟩
 | goto l=>exact ⟨_,a₁,w₁,hq,.pass (x:=.inLoop c) rfl (fun _ _=>.inl (by simp)) harr⟩
 | ret=>exact ⟨_,a₁,w₁,hq,.pass (x:=.inLoop c) rfl (fun _ _=>.inl (by simp)) harr⟩
 | panic ch=>exact ⟨_,a₁,w₁,hq,.pass (x:=.inLoop c) rfl (fun _ _=>.inl (by simp)) harr⟩
 | outgrown=>exact ⟨_,a₁,w₁,hq,.pass (x:=.inLoop c) rfl (fun _ _=>.inl (by simp)) harr⟩
theorem LoopW.wp {ro:Option Nat} {P:Program} {c:Code} {Q:Exit→Act→World→Prop} {a:Act} {w:World} (h:LoopW ro P c Q a w):(Code.loop c).wpR ro P Q a w:=by
 intro b k cs hro _ _
 obtain ⟨e,a',w',hq,harr⟩:=h b k cs hro
 exact ⟨e,a',w',hq,.of_steps (.one (fr_calm rfl) stepR_loop) harr⟩
def ScopeW (ro:Option Nat) (P:Program) (c d:Code) (Q:Exit→Act→World→Prop) (a:Act) (w:World):Prop :=
 ∀ (b:Frame) (k:List Item) (cs:List Frame),b.roundOf=(Fr ro).round→∃ e a' w',Q e a' w'∧ArrivesIn (Machine.fenced P (Fr ro)) P (lone (b.atR a (.code d::.inScope c::k)) cs w) b k cs e a' w'
def inScope (ro:Option Nat) (P:Program) (c:Code) (Q:Exit→Act→World→Prop):Exit→Act→World→Prop
 | .goto l,a,w=>∃ rest,findLabel c l=some rest∧ScopeW ro P c rest Q a w
 | e,a,w=>Q e a w
theorem ScopeW.run {ro:Option Nat} {P:Program} {c d:Code} {Q:Exit→Act→World→Prop} {a:Act} {w:World} (h:d.wpR ro P (inScope ro P c Q) a w):ScopeW ro P c d Q a w:=by
 intro b k cs hro
 obtain ⟨e,a₁,w₁,hq,harr⟩:=h b (.inScope c::k) cs hro (Fr_fn ro _) (Fr_room ro _)
 cases e with
 | normal=>exact ⟨.normal,a₁,w₁,hq,StepsIn.trans harr (.one (fr_calm rfl) stepR_inScope)⟩
 | exit id=>exact ⟨.exit id,a₁,w₁,hq,fun k' hk=>harr.1 k' (by simp [exitTo,hk]),fun hr hk=>by
   obtain ⟨k₁,g1,g2⟩:=harr.2 hr (by simp [exitTo,hk])
   exact ⟨k₁,g1,g2⟩⟩
 | goto l =>
  obtain ⟨rest,hf,hs⟩:=hq
  obtain ⟨e₂,a₂,w₂,hq₂,harr₂⟩:=hs b k cs hro
  have hg:gotoIn l (.inScope c::k)=some (.code rest::.inScope c::k):=by simp [gotoIn,hf]
  exact ⟨e₂,a₂,w₂,hq₂,.of_steps (harr.1 _ hg) harr₂⟩
 | ret=>exact ⟨_,a₁,w₁,hq,harr⟩
 | panic ch=>exact ⟨_,a₁,w₁,hq,harr⟩
 | outgrown=>exact ⟨_,a₁,w₁,hq,harr⟩
theorem ScopeW.wp {ro:Option Nat} {P:Program} {c:Code} {Q:Exit→Act→World→Prop} {a:Act} {w:World} (h:ScopeW ro P c c Q a w):(Code.scope c).wpR ro P Q a w:=by
 intro b k cs hro _ _
 obtain ⟨e,a',w',hq,harr⟩:=h b k cs hro
 exact ⟨e,a',w',hq,.of_steps (.one (fr_calm rfl) stepR_scope) harr⟩
def HL (P:Program) (c:Code) (a:AA) (h:AH) (Q:HX→AA→AH→Prop):Prop:=∀ B ro E w x,RW P E h w→RX B ro E w a x→LoopW ro P c (HPost P B ro E w Q) x w
def HS (P:Program) (c d:Code) (a:AA) (h:AH) (Q:HX→AA→AH→Prop):Prop:=∀ B ro E w x,RW P E h w→RX B ro E w a x→ScopeW ro P c d (HPost P B ro E w Q) x w
def seqK (K:AA→AH→Prop) (Q:HX→AA→AH→Prop):HX→AA→AH→Prop
 | .normal,a,h=>K a h
 | e,a,h=>Q e a h
def blockK (id:Nat) (Q:HX→AA→AH→Prop):HX→AA→AH→Prop
 | .exit j,a,h=>if j=id then Q .normal a h else Q (.exit j) a h
 | e,a,h=>Q e a h
def scopeK (K:Nat→AA→AH→Prop) (Q:HX→AA→AH→Prop):HX→AA→AH→Prop
 | .goto l,a,h=>K l a h
 | e,a,h=>Q e a h
theorem HL.round {P:Program} {c:Code} {a:AA} {h:AH} {Q:HX→AA→AH→Prop} (hh:HW P c a h (seqK (fun a h=>HL P c a h Q) Q)):HL P c a h Q:=by
 intro B ro E w x r rx
 refine LoopW.round (wpIn_mono (hh B ro E w x r rx) ?_)
 rintro e y w' ⟨hx,a',h',E',h1,h2,h3,h4,h6⟩
 cases hx with
 | normal =>
  cases e with
  | normal =>
   intro b k cs hro
   obtain ⟨e2,a2,w2,q2,arr⟩:=h6 B ro E' w' y h2 h4 b k cs hro
   exact ⟨e2,a2,w2,q2.ext h3,arr⟩
  | _=>cases h1
 | _ =>
  cases e <;> first
   | (cases h1;done)
   | exact ⟨_,a',h',E',h1,h2,h3,h4,h6⟩
theorem HS.run {P:Program} {c d:Code} {a:AA} {h:AH} {Q:HX→AA→AH→Prop}
  (hh:HW P d a h (scopeK (fun l a h=>match findLabel c l with | some rest=>HS P c rest a h Q | none=>False) Q)):HS P c d a h Q:=by
 intro B ro E w x r rx
 refine ScopeW.run (wpIn_mono (hh B ro E w x r rx) ?_)
 rintro e y w' ⟨hx,a',h',E',h1,h2,h3,h4,h6⟩
 cases hx with
 | goto l =>
  cases e with
  | goto m =>
   have h1':l=m:=h1
   subst h1'
   simp only [scopeK] at h6
   split at h6
   ·rename_i rest hf
    refine ⟨rest,hf,fun b k cs hro=>?_⟩
    obtain ⟨e2,a2,w2,q2,arr⟩:=h6 B ro E' w' y h2 h4 b k cs hro
    exact ⟨e2,a2,w2,q2.ext h3,arr⟩
   ·cases h6
  | _=>cases h1
 | _ =>
  cases e <;> first
   | (cases h1;done)
   | exact ⟨_,a',h',E',h1,h2,h3,h4,h6⟩
theorem HL.keep {P:Program} {c:Code} {a:AA} {h:AH} {Q:HX→AA→AH→Prop} (l:List Nat) (hh:HL P c (a.keep l) h Q):HL P c a h Q :=
 fun B ro E w x r rx=>hh B ro E w x r (rx.keep l)
theorem HS.keep {P:Program} {c d:Code} {a:AA} {h:AH} {Q:HX→AA→AH→Prop} (l:List Nat) (hh:HS P c d (a.keep l) h Q):HS P c d a h Q :=
 fun B ro E w x r rx=>hh B ro E w x r (rx.keep l)
theorem HW.keep {P:Program} {c:Code} {a:AA} {h:AH} {Q:HX→AA→AH→Prop} (l:List Nat) (hh:HW P c (a.keep l) h Q):HW P c a h Q :=
 fun B ro E w x r rx=>hh B ro E w x r (rx.keep l)
def loopAt (h:AH) (k:Nat):Option (Loop × Option Nat):=match h.get k with
 | some (.loop r,s)=>some (r,s)
 | _=>none
def tmsU:Nat→List Value→T Value→T Value
 | _,[],t=>t
 | k,v::l,t=>tmsU (k + 1) l (match unknw v with | some u=>t.put (k + 1) (k + 1) (some u) | none=>t)
def roundA (r:Loop) (k:Nat) (args:List Value):AA :=
 let l:=(r.params.zip (args.map knw).toArray).foldl (fun tmps (t,a)=>tmps.setIfInBounds t a) r.tmps
 ⟨tmsU 0 l.toList .leaf,l.size,{ loop:=some k }⟩
def bq {α:Type} (o:Option α) (k:α→Prop):Prop:=match o with
 | some x=>k x
 | none=>False
@[simp] theorem bq_some {α:Type} (x:α) (k:α→Prop):bq (some x) k=k x:=propext (Iff.intro (fun h=>h) fun h=>h)
theorem bq_eq {α:Type} {o:Option α} {k:α→Prop} (h:bq o k):∃ x,o=some x∧k x:=by
 cases o with
 | none=>cases h
 | some x=>exact ⟨x,rfl,h⟩
theorem bq_of {α:Type} {o:Option α} {x:α} {k:α→Prop} (e:o=some x) (h:k x):bq o k:=by rw [e];exact h
def oq {α:Type} (o:Option α) (k:α→Prop):Prop:=match o with
 | some x=>k x
 | none=>bq (none:Option α) k
@[simp] theorem oq_some {α:Type} (x:α) (k:α→Prop):oq (some x) k=k x:=rfl
theorem oq_eq {α:Type} {o:Option α} {k:α→Prop} (h:oq o k):∃ x,o=some x∧k x:=by
 cases o with
 | none=>cases h
 | some x=>exact ⟨x,rfl,h⟩
def resK (k pk:Value→AH→Prop):Res→AH→Prop
 | .ret v,h=>k v h
 | .pan v,h=>pk v h
theorem HC.exact {P:Program} {f:FuncId} {args:Array Value} {h h':AH} {v:Value} {k pk:Value→AH→Prop} (a:Ex P f args h v h') (hk:k v h'):HC P f args h (resK k pk) :=
 a.mono fun r g ⟨e1,e2⟩=>by subst e1 e2;exact hk
def pickV (c a b:Value):Option Value:=match c with
 | .bool t=>some (if t then a else b)
 | _=>none
def nilV (P:Program) (v:Value):Option Value:=if nilChecked v || nilMeth P v then some v else none
def unV (P:Program) (op:UnOp) (a:Value):Option Value:=if plain a then flatV P (Op.unary op a) else none
def sliceV (P:Program) (h:AH) (t:TypeId) (v:Value) (l g:Option Value):Option Value:=match v with
 | .string s=>if l.all plain && g.all plain then flatV P (Instr.sliceAt t (.string s) l g none) else none
 | _=>opSlice P h t v l g
def binV (P:Program) (op:BinOp) (t:TypeId) (x y:Operand) (a b:Value) (h:AH):Option Value:=match absBin P op t x y a b h with
 | some (.val v _)=>some v
 | _=>none
def convV (P:Program) (s d:TypeId) (a:Value) (h:AH):Option (Value × AH):=match absConvert P s d a h with
 | some (.val v h')=>some (v,h')
 | _=>none
def externV (P:Program) (f:FuncId) (args:List Value):Option Value :=
 if args.all (plainN 12) then match flat P (callFunc f args.toArray) with
  | some (.value v)=>if plain v then some v else none
  | _=>none
 else none
def enterP (P:Program) (f:FuncId) (args:List Value) (h:AH) (k pk:Value→AH→Prop):Prop :=
 match P.funcs[f]? with
 | some fn=>if fn.name == "runtime.NumGoroutine" then False else if fn.body.isNone then (if isExt fn then bq (extO fn.name args h) fun r=>k r.1 r.2 else bq (externV P f args) fun v=>k v h) else HC P f args.toArray h (resK k pk)
 | none=>False
def endRd (K:Value→AH→Prop) (k:Nat) (j:Option Code) (h:AH):Prop :=
 bq (loopAt h k) fun r=>K (.bool j.isNone) (h.put k (some (.loop { r.1 with state:=if j.isNone then .ready else .done,pending:=j },r.2)))
def roundK (k:Nat) (K:Value→AH→Prop):HX→AA→AH→Prop
 | .normal,_,h=>endRd K k none h
 | .ret,_,h=>endRd K k (some .ret) h
 | .exit i,_,h=>endRd K k (some (.exit i)) h
 | .goto l,_,h=>endRd K k (some (.goto l)) h
 | .panic _,_,_=>False
def roundP (P:Program) (k:Nat) (args:List Value) (h:AH) (K:Value→AH→Prop):Prop :=
 bq (loopAt h k) fun r=>args.length=r.1.params.size∧HW P r.1.assign (roundA r.1 k args) h (seqK (fun a h=>bq (loopAt h k) fun q=>q.1.state=.ready ∧
  HW P r.1.body a (h.put k (some (.loop { q.1 with state:=.busy },q.2))) (roundK k K)) fun _ _ _=>False)
def callP (P:Program) (fv:Value) (args:List Value) (h:AH) (k pk:Value→AH→Prop):Prop:=match fv with
 | .func (.func g) first captured=>enterP P g (first.toList++args++captured.toList) h k pk
 | .chan (some l)=>roundP P l args h k
 | _=>False
def invokeP (P:Program) (rv:Value) (name:String) (args:List Value) (h:AH) (k pk:Value→AH→Prop):Prop:=match rv with
 | .iface t v=>match methodOf P t v name with
  | some (g,r)=>enterP P g (r::args) h k pk
  | none=>False
 | _=>False
def panicP (v:Value) (h:AH) (pk:Value→AH→Prop):Prop:=match v with
 | .iface t u=>pk (.iface t u) h
 | _=>False
def wpCall (P:Program) (ρ:Operand→Option Value) (c:Call) (ty:TypeId) (h:AH) (k pk:Value→AH→Prop):Prop :=
 oq (listOf ρ c.args.toList) fun args=>match c.callee with
  | .builtin .append=>match args with
   | [s,x]=>bq (opAppend P h c.argTypes s x) fun r=>k r.1 r.2
   | _=>False
  | .builtin .copy=>match args with
   | [s,x]=>bq (opCopy P h c.argTypes s x) fun r=>k r.1 r.2
   | _=>False
  | .builtin .len=>match args,c.argTypes[0]? with
   | [x],some t=>bq (opLen P h t x) fun v=>k v h
   | _,_=>False
  | .builtin .delete=>match args,c.argTypes[0]? with
   | [m,x],some t=>bq (opDelete P h t m x) fun h'=>k (.tuple #[]) h'
   | _,_=>False
  | .builtin .min=>if args.all (plainN 12) then bq (flatV P (Builtin.min_ c.argTypes ty args.toArray)) fun v=>k v h else False
  | .builtin .max=>if args.all (plainN 12) then bq (flatV P (Builtin.max_ c.argTypes ty args.toArray)) fun v=>k v h else False
  | .builtin .real=>if args.all (plainN 12) then bq (flatV P (Builtin.real_ c.argTypes ty args.toArray)) fun v=>k v h else False
  | .builtin .imag=>if args.all (plainN 12) then bq (flatV P (Builtin.imag_ c.argTypes ty args.toArray)) fun v=>k v h else False
  | .builtin .complex=>if args.all (plainN 12) then bq (flatV P (Builtin.complex_ c.argTypes ty args.toArray)) fun v=>k v h else False
  | .builtin .unsafeSliceData=>match args with
   | [x]=>bq (opSliceData x) fun v=>k v h
   | _=>False
  | .builtin .unsafeString=>match args,c.argTypes.toList with
   | [x,y],[t,_]=>bq (opUString P h t x y) fun r=>k r.1 r.2
   | _,_=>False
  | .builtin .clear=>match args,c.argTypes[0]? with
   | [x],some t=>bq (opClear P h t x) fun h'=>k (.tuple #[]) h'
   | _,_=>False
  | .builtin _=>False
  | .value f=>oq (ρ f) fun fv=>callP P fv args h k pk
  | .invoke recv name=>oq (ρ recv) fun rv=>invokeP P rv name args h k pk
def wpOp (P:Program) (ρ:Operand→Option Value) (o:Oper) (h:AH) (k pk:Value→AH→Prop):Prop :=
 match o.op with
 | .move x | .assign x=>oq (ρ x) fun v=>k v h
 | .pick c a b=>oq (ρ c) fun cv=>oq (ρ a) fun av=>oq (ρ b) fun bv=>bq (pickV cv av bv) fun v=>k v h
 | .alloc e=>bq (opAlloc P h e) fun r=>k r.1 r.2
 | .box e x=>oq (ρ x) fun v=>k (opNew h e v.cells).1 (opNew h e v.cells).2
 | .build t parts=>oq (partsOf ρ parts.toList) fun l=>bq (opBuild P t l) fun v=>k v h
 | .buildSlice t n parts=>oq (partsOf ρ parts.toList) fun l=>bq (opBuildSlice P h t n l) fun r=>k r.1 r.2
 | .load t a=>oq (ρ a) fun v=>bq (opLoad P h t v) fun u=>k u h
 | .store t a x=>oq (ρ a) fun av=>oq (ρ x) fun xv=>bq (opStore P h t av xv) fun h'=>k undef h'
 | .nilCheck x=>oq (ρ x) fun v=>bq (nilV P v) fun v=>k v h
 | .binOp op t x y _=>oq (ρ x) fun a=>oq (ρ y) fun b=>bq (binV P op t x y a b h) fun v=>k v h
 | .unOp op _ x=>oq (ρ x) fun a=>bq (unV P op a) fun v=>k v h
 | .convert s d x=>oq (ρ x) fun a=>bq (convV P s d a h) fun r=>k r.1 r.2
 | .makeInterface t x=>oq (ρ x) fun a=>bq (opMakeInterface P t a) fun v=>k v h
 | .makeFunc (.func f) first captured=>oq (listOf ρ first.toList) fun l=>oq (listOf ρ captured.toList) fun m=>k (.func (.func f) l.toArray m.toArray) h
 | .makeFunc (.method f) first captured=>oq (listOf ρ first.toList) fun l=>oq (listOf ρ captured.toList) fun m=>k (.func (.method f) l.toArray m.toArray) h
 | .makeSlice t l c=>oq (ρ l) fun a=>oq (ρ c) fun b=>bq (opMakeSlice P h t a b) fun r=>k r.1 r.2
 | .slice t x lo hi none=>oq (ρ x) fun v=>oq (optOf ρ lo) fun l=>oq (optOf ρ hi) fun g=>bq (sliceV P h t v l g) fun v=>k v h
 | .slice t x lo hi (some m)=>oq (ρ x) fun v=>oq (optOf ρ lo) fun l=>oq (optOf ρ hi) fun g=>oq (ρ m) fun m=>bq (opSlice3 P h t v l g (some m)) fun v=>k v h
 | .fieldAddr s x f=>oq (ρ x) fun a=>bq (opFieldAddr P s a f) fun v=>k v h
 | .field s x f=>oq (ρ x) fun a=>bq (opField P s a f) fun v=>k v h
 | .indexAddr t x i=>oq (ρ x) fun a=>oq (ρ i) fun b=>bq (opIndexAddr P t a b) fun v=>k v h
 | .index t x i=>oq (ρ x) fun a=>oq (ρ i) fun b=>bq (opIndex P t a b) fun v=>k v h
 | .typeAssert x st t ok=>oq (ρ x) fun a=>bq (opTypeAssert P a t ok) fun v=>k v h
 | .extract t i=>oq (ρ t) fun a=>bq (opExtract a i) fun v=>k v h
 | .call c=>wpCall P ρ c o.type h k pk
 | .makeMap t none=>k (opMakeMap h).1 (opMakeMap h).2
 | .lookup t x i ok=>oq (ρ x) fun a=>oq (ρ i) fun b=>bq (opLookup P h t a b ok) fun v=>k v h
 | .mapUpdate t m i x | .insert t m i x=>oq (ρ m) fun a=>oq (ρ i) fun b=>oq (ρ x) fun c=>bq (opMapUpdate P h t a b c) fun h'=>k undef h'
 | .mapEntry t m i=>oq (ρ m) fun a=>oq (ρ i) fun b=>bq (opMapEntry P h t a b) fun r=>k r.1 r.2
 | .entryStore _ m i x=>oq (ρ m) fun a=>oq (ρ i) fun b=>oq (ρ x) fun c=>bq (opEntryStore h a b c) fun h'=>k undef h'
 | .range t x=>oq (ρ x) fun a=>bq (opRange P h t a) fun r=>k r.1 r.2
 | .next it s=>oq (ρ it) fun a=>nextP P h a s k
 | .entry it=>oq (ρ it) fun a=>bq (opEntry h a) fun v=>k v h
 | .panic x=>oq (ρ x) fun v=>panicP v h pk
 | _=>False
def outK (P:Program) (out:Out) (k pk:Value→AH→Prop):Prop:=match out with
 | .val v h=>k v h
 | .unit h=>k undef h
 | .enter f args h=>HC P f args h (resK k pk)
section
variable {P:Program} {ρ:Operand→Option Value} {h:AH} {k pk:Value→AH→Prop}
theorem enterP_abs {f:FuncId} {args:List Value} (hh:enterP P f args h k pk):∃ out,enterOf P f args h=some out∧outK P out k pk:=by
 unfold enterP at hh
 unfold enterOf
 cases hf:P.funcs[f]? with
 | none=>rw [hf] at hh;cases hh
 | some fn =>
  rw [hf] at hh
  simp only at hh ⊢
  split at hh
  ·cases hh
  ·rename_i hn
   rw [if_neg hn]
   split at hh
   ·rename_i hb
    rw [if_pos hb]
    split at hh
    ·rename_i hx
     rw [if_pos hx]
     obtain ⟨y,e,hk⟩:=bq_eq hh
     exact ⟨.val y.1 y.2,by simp only [e];rfl,hk⟩
    rename_i hx
    rw [if_neg hx]
    obtain ⟨v,e,hk⟩:=bq_eq hh
    unfold externV at e
    split at e
    ·rename_i hp
     rw [if_pos hp]
     split at e
     ·rename_i u hu
      split at e
      ·rename_i hpu
       cases e
       exact ⟨.val v h,by simp only [hu,hpu,if_true],hk⟩
      ·cases e
     ·cases e
    ·cases e
   ·rename_i hb
    rw [if_neg hb]
    exact ⟨_,rfl,hh⟩
theorem wpCall_abs {c:Call} {ty:TypeId} (hy:∀ f l,c.callee=.value f→ρ f ≠ some (.chan (some l))) (hh:wpCall P ρ c ty h k pk):∃ out,absCall P ρ c ty h=some out∧outK P out k pk:=by
 unfold wpCall at hh
 obtain ⟨args,ha,hh⟩:=oq_eq hh
 unfold absCall
 rw [ha]
 simp only
 cases hc:c.callee with
 | builtin b =>
  rw [hc] at hh
  cases b
  case append =>
   simp only at hh ⊢
   split at hh
   ·obtain ⟨r,e,hk⟩:=bq_eq hh
    exact ⟨.val r.1 r.2,by simp only [e];rfl,hk⟩
   ·cases hh
  case copy =>
   simp only at hh ⊢
   split at hh
   ·obtain ⟨r,e,hk⟩:=bq_eq hh
    exact ⟨.val r.1 r.2,by simp only [e];rfl,hk⟩
   ·cases hh
  case len =>
   simp only at hh ⊢
   split at hh
   ·rename_i x t h0
    rw [h0]
    obtain ⟨r,e,hk⟩:=bq_eq hh
    exact ⟨.val r h,by simp only [e];rfl,hk⟩
   ·cases hh
  case delete =>
   simp only at hh ⊢
   split at hh
   ·rename_i m x t h0
    rw [h0]
    obtain ⟨h',e,hk⟩:=bq_eq hh
    exact ⟨.val (.tuple #[]) h',by simp only [e],hk⟩
   ·cases hh
  case min =>
   simp only at hh ⊢
   split at hh
   ·rename_i hp
    rw [if_pos hp]
    obtain ⟨r,e,hk⟩:=bq_eq hh
    exact ⟨.val r h,by rw [e];rfl,hk⟩
   ·cases hh
  case max =>
   simp only at hh ⊢
   split at hh
   ·rename_i hp
    rw [if_pos hp]
    obtain ⟨r,e,hk⟩:=bq_eq hh
    exact ⟨.val r h,by rw [e];rfl,hk⟩
   ·cases hh
  case real =>
   simp only at hh ⊢
   split at hh
   ·rename_i hp
    rw [if_pos hp]
    obtain ⟨r,e,hk⟩:=bq_eq hh
    exact ⟨.val r h,by rw [e];rfl,hk⟩
   ·cases hh
  case imag =>
   simp only at hh ⊢
   split at hh
   ·rename_i hp
    rw [if_pos hp]
    obtain ⟨r,e,hk⟩:=bq_eq hh
    exact ⟨.val r h,by rw [e];rfl,hk⟩
   ·cases hh
  case complex =>
   simp only at hh ⊢
   split at hh
   ·rename_i hp
    rw [if_pos hp]
    obtain ⟨r,e,hk⟩:=bq_eq hh
    exact ⟨.val r h,by rw [e];rfl,hk⟩
   ·cases hh
  case unsafeSliceData =>
   simp only at hh ⊢
   split at hh
   ·obtain ⟨r,e,hk⟩:=bq_eq hh
    exact ⟨.val r h,by simp only [e];rfl,hk⟩
   ·cases hh
  case unsafeString =>
   simp only at hh ⊢
   split at hh
   ·rename_i x y t t2 h0
    rw [h0]
    obtain ⟨r,e,hk⟩:=bq_eq hh
    exact ⟨.val r.1 r.2,by simp only [e];rfl,hk⟩
   ·cases hh
  case clear =>
   simp only at hh ⊢
   split at hh
   ·rename_i x t h0
    rw [h0]
    obtain ⟨h',e,hk⟩:=bq_eq hh
    exact ⟨.val (.tuple #[]) h',by simp only [e],hk⟩
   ·cases hh
  all_goals (cases hh)
 | value f =>
  rw [hc] at hh
  simp only at hh ⊢
  obtain ⟨fv,e,hh⟩:=oq_eq hh
  rw [e]
  unfold callP at hh
  split at hh
  ·exact enterP_abs hh
  ·exact absurd e (hy f _ hc)
  ·cases hh
 | invoke recv name =>
  rw [hc] at hh
  simp only at hh ⊢
  obtain ⟨rv,e,hh⟩:=oq_eq hh
  rw [e]
  unfold invokeP at hh
  split at hh
  ·rename_i t v
   simp only
   cases hm:methodOf P t v name with
   | none=>rw [hm] at hh;cases hh
   | some gr =>
    obtain ⟨g,r⟩:=gr
    rw [hm] at hh
    exact enterP_abs hh
  ·cases hh
theorem wpOp_abs {o:Oper} (hnp:∀ x,o.op ≠ .panic x) (hnn:∀ it s,o.op ≠ .next it s) (hy:∀ c f l,o.op=.call c→c.callee=.value f→ρ f ≠ some (.chan (some l))) (hh:wpOp P ρ o h k pk):∃ out,absOp P ρ o h=some out∧outK P out k pk:=by
 unfold wpOp at hh
 unfold absOp
 cases ho:o.op with
 | move x=>rw [ho] at hh;obtain ⟨v,e,hk⟩:=oq_eq hh;exact ⟨.val v h,by simp only;rw [e];rfl,hk⟩
 | assign x=>rw [ho] at hh;obtain ⟨v,e,hk⟩:=oq_eq hh;exact ⟨.val v h,by simp only;rw [e];rfl,hk⟩
 | pick c a b =>
  rw [ho] at hh
  obtain ⟨cv,e1,hh⟩:=oq_eq hh
  obtain ⟨av,e2,hh⟩:=oq_eq hh
  obtain ⟨bv,e3,hh⟩:=oq_eq hh
  obtain ⟨v,e4,hk⟩:=bq_eq hh
  cases cv with
  | bool z =>
   have e5:(if z then av else bv)=v:=Option.some.inj e4
   subst e5
   refine ⟨.val (if z then av else bv) h,?_,hk⟩
   simp only [e1]
   cases z
   ·simp [e3,valH]
   ·simp [e2,valH]
  | _=>cases e4
 | alloc e=>rw [ho] at hh;obtain ⟨r,e,hk⟩:=bq_eq hh;exact ⟨.val r.1 r.2,by simp only;rw [e];rfl,hk⟩
 | box e x=>rw [ho] at hh;obtain ⟨v,e,hk⟩:=oq_eq hh;exact ⟨.val _ _,by simp only [e],hk⟩
 | build t parts=>rw [ho] at hh;obtain ⟨l,e,hh⟩:=oq_eq hh;obtain ⟨v,e2,hk⟩:=bq_eq hh;exact ⟨.val v h,by simp only [e,e2];rfl,hk⟩
 | buildSlice t n parts=>rw [ho] at hh;obtain ⟨l,e,hh⟩:=oq_eq hh;obtain ⟨r,e2,hk⟩:=bq_eq hh;exact ⟨.val r.1 r.2,by simp only [e,e2];rfl,hk⟩
 | load t x=>rw [ho] at hh;obtain ⟨l,e,hh⟩:=oq_eq hh;obtain ⟨v,e2,hk⟩:=bq_eq hh;exact ⟨.val v h,by simp only [e,e2];rfl,hk⟩
 | store t a x=>rw [ho] at hh;obtain ⟨l,e,hh⟩:=oq_eq hh;obtain ⟨v,e2,hh⟩:=oq_eq hh;obtain ⟨h',e3,hk⟩:=bq_eq hh;exact ⟨.unit h',by simp only [e,e2,e3],hk⟩
 | nilCheck x =>
  rw [ho] at hh;obtain ⟨l,e,hh⟩:=oq_eq hh;obtain ⟨v,e2,hk⟩:=bq_eq hh
  unfold nilV at e2
  split at e2
  ·rename_i hn;cases e2;exact ⟨.val l h,by simp only [e,hn,if_true],hk⟩
  ·cases e2
 | binOp op t x y yt =>
  rw [ho] at hh;obtain ⟨l,e,hh⟩:=oq_eq hh;obtain ⟨v,e2,hh⟩:=oq_eq hh;obtain ⟨u,e3,hk⟩:=bq_eq hh
  unfold binV at e3
  split at e3
  ·rename_i v' h' hb
   cases e3
   obtain ⟨z,hz⟩:=absBin_quiet hb
   cases hz
   exact ⟨.val u h,by simp only [e,e2,hb],hk⟩
  ·cases e3
 | unOp op t x =>
  rw [ho] at hh;obtain ⟨l,e,hh⟩:=oq_eq hh;obtain ⟨v,e2,hk⟩:=bq_eq hh
  unfold unV at e2
  split at e2
  ·rename_i hp;exact ⟨.val v h,by simp only [e,hp,if_true,e2];rfl,hk⟩
  ·cases e2
 | convert s d x =>
  rw [ho] at hh;obtain ⟨l,e,hh⟩:=oq_eq hh;obtain ⟨r,e2,hk⟩:=bq_eq hh
  unfold convV at e2
  split at e2
  ·rename_i v' h' hc;cases e2;exact ⟨.val v' h',by simp only [e,hc],hk⟩
  ·cases e2
 | makeInterface t x=>rw [ho] at hh;obtain ⟨l,e,hh⟩:=oq_eq hh;obtain ⟨v,e2,hk⟩:=bq_eq hh;exact ⟨.val v h,by simp only [e,e2];rfl,hk⟩
 | makeFunc fn l m =>
  rw [ho] at hh
  cases fn
  case func f=>obtain ⟨l',e,hh⟩:=oq_eq hh;obtain ⟨m',e2,hk⟩:=oq_eq hh;exact ⟨.val _ h,by simp only [e,e2],hk⟩
  case method f=>obtain ⟨l',e,hh⟩:=oq_eq hh;obtain ⟨m',e2,hk⟩:=oq_eq hh;exact ⟨.val _ h,by simp only [e,e2],hk⟩
  all_goals (cases hh)
 | makeSlice t l c=>rw [ho] at hh;obtain ⟨l',e,hh⟩:=oq_eq hh;obtain ⟨v,e2,hh⟩:=oq_eq hh;obtain ⟨r,e3,hk⟩:=bq_eq hh;exact ⟨.val r.1 r.2,by simp only [e,e2,e3];rfl,hk⟩
 | slice t x lo hi m =>
  rw [ho] at hh
  cases m with
  | some m=>obtain ⟨v,e,hh⟩:=oq_eq hh;obtain ⟨l,e2,hh⟩:=oq_eq hh;obtain ⟨g,e3,hh⟩:=oq_eq hh;obtain ⟨m,e4,hh⟩:=oq_eq hh;obtain ⟨u,e5,hk⟩:=bq_eq hh;exact ⟨.val u h,by simp only [e,e2,e3,e4,e5];rfl,hk⟩
  | none =>
   obtain ⟨v,e,hh⟩:=oq_eq hh;obtain ⟨l,e2,hh⟩:=oq_eq hh;obtain ⟨g,e3,hh⟩:=oq_eq hh;obtain ⟨u,e4,hk⟩:=bq_eq hh
   unfold sliceV at e4
   refine ⟨.val u h,?_,hk⟩
   simp only [e,e2,e3]
   split at e4
   ·rename_i s
    split at e4
    ·rename_i hp;simp only [hp,if_true,e4];rfl
    ·cases e4
   ·rename_i hns
    cases v <;> first
     | (exact absurd rfl (hns _))
     | (simp only [e4];rfl)
 | fieldAddr s x f=>rw [ho] at hh;obtain ⟨l,e,hh⟩:=oq_eq hh;obtain ⟨v,e2,hk⟩:=bq_eq hh;exact ⟨.val v h,by simp only [e,e2];rfl,hk⟩
 | field s x f=>rw [ho] at hh;obtain ⟨l,e,hh⟩:=oq_eq hh;obtain ⟨v,e2,hk⟩:=bq_eq hh;exact ⟨.val v h,by simp only [e,e2];rfl,hk⟩
 | indexAddr t x i=>rw [ho] at hh;obtain ⟨l,e,hh⟩:=oq_eq hh;obtain ⟨v,e2,hh⟩:=oq_eq hh;obtain ⟨u,e3,hk⟩:=bq_eq hh;exact ⟨.val u h,by simp only [e,e2,e3];rfl,hk⟩
 | index t x i=>rw [ho] at hh;obtain ⟨l,e,hh⟩:=oq_eq hh;obtain ⟨v,e2,hh⟩:=oq_eq hh;obtain ⟨u,e3,hk⟩:=bq_eq hh;exact ⟨.val u h,by simp only [e,e2,e3];rfl,hk⟩
 | typeAssert x st t ok=>rw [ho] at hh;obtain ⟨l,e,hh⟩:=oq_eq hh;obtain ⟨v,e2,hk⟩:=bq_eq hh;exact ⟨.val v h,by simp only [e,e2];rfl,hk⟩
 | extract t i=>rw [ho] at hh;obtain ⟨l,e,hh⟩:=oq_eq hh;obtain ⟨v,e2,hk⟩:=bq_eq hh;exact ⟨.val v h,by simp only [e,e2];rfl,hk⟩
 | call c=>rw [ho] at hh;exact wpCall_abs (fun f l e=>hy c f l ho e) hh
 | makeMap t r =>
  rw [ho] at hh
  cases r with
  | none=>exact ⟨.val _ _,rfl,hh⟩
  | some r=>cases hh
 | lookup t x i ok=>rw [ho] at hh;obtain ⟨l,e,hh⟩:=oq_eq hh;obtain ⟨v,e2,hh⟩:=oq_eq hh;obtain ⟨u,e3,hk⟩:=bq_eq hh;exact ⟨.val u h,by simp only [e,e2,e3];rfl,hk⟩
 | mapUpdate t m i x=>rw [ho] at hh;obtain ⟨l,e,hh⟩:=oq_eq hh;obtain ⟨v,e2,hh⟩:=oq_eq hh;obtain ⟨c,e3,hh⟩:=oq_eq hh;obtain ⟨h',e4,hk⟩:=bq_eq hh;exact ⟨.unit h',by simp only [e,e2,e3,e4],hk⟩
 | insert t m i x=>rw [ho] at hh;obtain ⟨l,e,hh⟩:=oq_eq hh;obtain ⟨v,e2,hh⟩:=oq_eq hh;obtain ⟨c,e3,hh⟩:=oq_eq hh;obtain ⟨h',e4,hk⟩:=bq_eq hh;exact ⟨.unit h',by simp only [e,e2,e3,e4],hk⟩
 | mapEntry t m i=>rw [ho] at hh;obtain ⟨l,e,hh⟩:=oq_eq hh;obtain ⟨v,e2,hh⟩:=oq_eq hh;obtain ⟨r,e3,hk⟩:=bq_eq hh;exact ⟨.val r.1 r.2,by simp only [e,e2,e3];rfl,hk⟩
 | entryStore t m i x=>rw [ho] at hh;obtain ⟨l,e,hh⟩:=oq_eq hh;obtain ⟨v,e2,hh⟩:=oq_eq hh;obtain ⟨c,e3,hh⟩:=oq_eq hh;obtain ⟨h',e4,hk⟩:=bq_eq hh;exact ⟨.unit h',by simp only [e,e2,e3,e4],hk⟩
 | range t x=>rw [ho] at hh;obtain ⟨l,e,hh⟩:=oq_eq hh;obtain ⟨r,e2,hk⟩:=bq_eq hh;exact ⟨.val r.1 r.2,by simp only [e,e2];rfl,hk⟩
 | next it s=>exact absurd ho (hnn it s)
 | entry it=>rw [ho] at hh;obtain ⟨l,e,hh⟩:=oq_eq hh;obtain ⟨v,e2,hk⟩:=bq_eq hh;exact ⟨.val v h,by simp only [e,e2];rfl,hk⟩
 | panic x=>exact absurd ho (hnp x)
 | _=>rw [ho] at hh;cases hh
end
end Go.Ab
end
