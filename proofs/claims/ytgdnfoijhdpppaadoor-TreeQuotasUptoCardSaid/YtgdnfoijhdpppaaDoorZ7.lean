import Derived.RangeFuncCalls
import Derived.RangeFuncRecord
import Derived.Test.YtgdnfoijhdpppaaDoorZ6
set_option linter.unusedVariables false
set_option linter.unusedSimpArgs false
section
namespace Go.Ab
section
variable {P:Program} {E:Ren} {h:AH} {w:World} {ρ:Operand→Option Value} {ρ':Operand→Value}
theorem eqGuard_run {op:BinOp} {t:TypeId} {x y:Operand} {a b:Value} (hna:∀ c d,a=.agg c→b=.agg d→False) (hnn:a=.nilIface→b=.nilIface→False) (w:World) :
  (eqGuard op t x y a b).run P w=.ok () w:=by
 cases op <;> first
  | rfl
  | (cases a <;> cases b <;> first
    | rfl
    | exact (hnn rfl rfl).elim
    | exact (hna _ _ rfl rfl).elim)
theorem rv_shape {a a' b b':Value} (ha:RV E a a') (hb:RV E b b') (hp:(plain a && plain b)=false) (hs:∀ c d,a=.agg c→b=.agg d→False) (ht:∀ c,a ≠ .tuple c) (op:BinOp) (ho:op=.eql ∨ op=.neq) (t:TypeId) :
  binOp op t a' b' = (match op with | .eql=>(do pure (.bool (← Op.equal t a' b')):Sem Value) | _=>do pure (.bool (!(← Op.equal t a' b')))):=by
 rcases ho with rfl | rfl <;> cases ha <;> cases hb <;> first
  | rfl
  | (simp [plain,plainN] at hp;done)
theorem absBin_ok (r:RW P E h w) {op:BinOp} {t:TypeId} {x y:Operand} {a b a' b':Value} {o:Out} (hh:absBin P op t x y a b h=some o) (ha:RV E a a') (hb:RV E b b') :
  OutOk P E w ((do pure (.value (← (do eqGuard op t x y a' b';binOp op t a' b':Sem Value))):Sem Next).run P w) o:=by
 unfold absBin at hh
 split at hh
 ·rename_i hp
  simp only [Bool.and_eq_true] at hp
  obtain ⟨u,h4,rfl⟩:=valH_eq hh
  rw [RV.eq_of_plain hp.1 ha,RV.eq_of_plain hp.2 hb]
  obtain ⟨g1,g2⟩:=flatV_run h4 w
  exact outVal' r ⟨_,g1,g2 E⟩
 ·rename_i hp
  have hp':(plain a && plain b)=false:=by simpa using hp
  split at hh
  ·cases hh
  ·cases hh
  ·rename_i ht hs
   have hag:∀ c d,a' = .agg c→b' = .agg d→False:=by
    rintro c d rfl rfl
    cases ha;cases hb
    exact hs _ _ rfl rfl
   have hnn:a' = .nilIface→b' = .nilIface→False:=by
    rintro rfl rfl
    cases ha;cases hb
    simp [plain,plainN] at hp'
   have hg:=fun w=>eqGuard_run (P:=P) (op:=op) (t:=t) (x:=x) (y:=y) hag hnn w
   split at hh
   ·split at hh
    ·rename_i c hc
     cases hh
     have he:=opEqPtr_run r hc ha hb
     have hbn:=rv_shape ha hb hp' (fun c d e1 e2=>hs c d e1 e2) (fun c e=>ht c e) .eql (.inl rfl) t
     exact outVal' r ⟨.bool c,by simp [hg,hbn,he],.bool c⟩
    ·cases hh
   ·split at hh
    ·rename_i c hc
     cases hh
     have he:=opEqPtr_run r hc ha hb
     have hbn:=rv_shape ha hb hp' (fun c d e1 e2=>hs c d e1 e2) (fun c e=>ht c e) .neq (.inr rfl) t
     exact outVal' r ⟨.bool (!c),by simp [hg,hbn,he],.bool _⟩
    ·cases hh
   ·cases hh
theorem absOp_ok (r:RW P E h w) (hr:OpsOk E ρ ρ') {op:Oper} {o:Out} (hh:absOp P ρ op h=some o):OutOk P E w ((execOp ρ' op).run P w) o:=by
 unfold absOp at hh
 unfold execOp
 split at hh
 ·rename_i x e
  rw [e]
  obtain ⟨u,h1,rfl⟩:=valH_eq hh
  exact outVal r ⟨_,rfl,hr x u h1⟩
 ·rename_i x e
  rw [e]
  obtain ⟨u,h1,rfl⟩:=valH_eq hh
  exact outVal r ⟨_,rfl,hr x u h1⟩
 ·rename_i c a b e
  rw [e]
  split at hh
  ·rename_i t hc
   obtain ⟨u,h1,rfl⟩:=valH_eq hh
   have hcv:=hr c _ hc
   generalize hρ:ρ' c=cv at hcv
   cases hcv
   refine outVal r ⟨if t then ρ' a else ρ' b,by simp [hρ,asBool],?_⟩
   cases t
   ·exact hr b u h1
   ·exact hr a u h1
  ·cases hh
 ·rename_i el e
  rw [e]
  obtain ⟨u,h',h1,rfl⟩:=valP_eq hh
  exact outNew (opAlloc_run r h1)
 ·rename_i el x e
  rw [e]
  split at hh
  ·rename_i v hv
   cases hh
   exact outNew (opBox_run r (hr x v hv))
  ·cases hh
 ·rename_i t parts e
  rw [e]
  split at hh
  ·rename_i l hl
   obtain ⟨u,h1,rfl⟩:=valH_eq hh
   exact outVal' r (opBuild_run h1 (by simpa using partsOf_ok hr hl) w)
  ·cases hh
 ·rename_i t n parts e
  rw [e]
  split at hh
  ·rename_i l hl
   obtain ⟨u,h',h1,rfl⟩:=valP_eq hh
   exact outNew (opBuildSlice_run r h1 (by simpa using partsOf_ok hr hl))
  ·cases hh
 ·rename_i t a e
  rw [e]
  split at hh
  ·rename_i v hv
   obtain ⟨u,h1,rfl⟩:=valH_eq hh
   exact outVal' r (opLoad_run r h1 (hr a v hv))
  ·cases hh
 ·rename_i t a x e
  rw [e]
  split at hh
  ·rename_i av xv ha hx
   split at hh
   ·rename_i h' hs
    cases hh
    obtain ⟨w',h1,h2,h3⟩:=opStore_run r hs (hr a av ha) (hr x xv hx)
    exact ⟨E,w',unit_run h1,h2,h3⟩
   ·cases hh
  ·cases hh
 ·rename_i x e
  rw [e]
  split at hh
  ·rename_i v hv
   split at hh
   ·rename_i hn
    cases hh
    have hv':=hr x v hv
    refine outVal r ⟨ρ' x,?_,hv'⟩
    dsimp only
    generalize ρ' x=xv at hv' ⊢
    rw [Bool.or_eq_true] at hn
    rcases hn with hn | hn
    ·unfold nilChecked at hn
     split at hn
     ·cases hv';rfl
     ·cases hv';rfl
     ·cases hv';rfl
     ·obtain ⟨b',off,c,rfl,h1,h2,h3⟩:=fp_inv hv';rfl
     ·cases hn
    ·unfold nilMeth at hn
     split at hn
     case h_2=>cases hn
     rename_i n f c
     split at hn
     case h_2=>cases hn
     rename_i t u h0
     split at hn
     case h_2=>cases hn
     rename_i i hi
     split at hn
     case h_2=>cases hn
     rename_i m hm
     rw [Bool.and_eq_true] at hn
     cases hv' with
     | meth _ hf hc h1 h2 =>
      rename_i f' c'
      have hlt:0 < f.size:=(Array.getElem?_eq_some_iff.1 h0).1
      have h3:=h1 0 _ _ h0 (Array.getElem?_eq_getElem (by omega))
      have h4:(f'[0]?:Option Value)=some f'[0]:=Array.getElem?_eq_getElem (by omega)
      generalize hz:f'[0]=z at h3
      rw [hz] at h4
      cases h3 with
      | iface _ h3 =>
       rename_i u'
       have hpos:P.types.size + Made.depth=(P.types.size + Made.depth - 1) + 1:=by unfold Made.depth;omega
       have hp:m.path.toList=[]:=by simpa using hn.1
       have key:(nilAhead (P.types.size + Made.depth) t u' n).run P w=.ok (some false) w:=by
        rw [hpos]
        unfold nilAhead
        simp only [Sem.run_bind,typeInfo,run_program,Result.andThen_ok,hi,hm,hp,followBlind,Sem.run_pure]
        have hn2:=hn.2
        split at hn2
        ·rename_i hfn;simp [hfn,hi,hm,hp,followBlind]
        ·rename_i hfn
         split at hn2
         ·rename_i hu
          split at hn2
          ·cases h3;simp [hfn,hi,hm,hp,followBlind,run_underlying hu]
          ·cases hn2
         ·rename_i d hu hne
          cases d <;> first
           | (exact absurd rfl (hu _))
           | simp [hfn,hi,hm,hp,followBlind,run_underlying hne]
         ·cases hn2
        ·cases hn2
       simp [h4,key]
   ·cases hh
  ·cases hh
 ·rename_i bo t x y yt e
  rw [e]
  split at hh
  ·rename_i a b ha hb
   exact absBin_ok r hh (hr x a ha) (hr y b hb)
  ·cases hh
 ·rename_i uo t x e
  rw [e]
  split at hh
  ·rename_i a ha
   split at hh
   ·rename_i hp
    obtain ⟨u,h1,rfl⟩:=valH_eq hh
    obtain ⟨g1,g2⟩:=flatV_run h1 w
    exact outVal' r ⟨_,by rw [plain_eq hr ha hp];exact g1,g2 E⟩
   ·cases hh
  ·cases hh
 ·rename_i s d x e
  rw [e]
  split at hh
  ·rename_i a ha
   exact absConvert_ok r hh (hr x a ha)
  ·cases hh
 ·rename_i t x e
  rw [e]
  split at hh
  ·rename_i a ha
   obtain ⟨u,h1,rfl⟩:=valH_eq hh
   exact outVal' r (opMakeInterface_run h1 (hr x a ha) w)
  ·cases hh
 ·rename_i f first captured e
  rw [e]
  split at hh
  ·rename_i l m hl hm
   cases hh
   have h1:=listOf_ok hr hl
   have h2:=listOf_ok hr hm
   rw [show (first.toList.map ρ').toArray=first.map ρ' by rw [← Array.toList_map,Array.toArray_toList]] at h1
   rw [show (captured.toList.map ρ').toArray=captured.map ρ' by rw [← Array.toList_map,Array.toArray_toList]] at h2
   exact outVal' r ⟨_,rfl,.func _ h1.1 h2.1 h1.2 h2.2⟩
  ·cases hh
 ·rename_i f first captured e
  rw [e]
  split at hh
  ·rename_i l m hl hm
   cases hh
   have h1:=listOf_ok hr hl
   have h2:=listOf_ok hr hm
   rw [show (first.toList.map ρ').toArray=first.map ρ' by rw [← Array.toList_map,Array.toArray_toList]] at h1
   rw [show (captured.toList.map ρ').toArray=captured.map ρ' by rw [← Array.toList_map,Array.toArray_toList]] at h2
   exact outVal' r ⟨_,rfl,.meth _ h1.1 h2.1 h1.2 h2.2⟩
  ·cases hh
 ·rename_i t l c e
  rw [e]
  split at hh
  ·rename_i a b ha hb
   obtain ⟨u,h',h1,rfl⟩:=valP_eq hh
   have hi:∃ k n k' m,a=.int k n∧b=.int k' m:=by
    unfold opMakeSlice at h1
    split at h1
    ·exact ⟨_,_,_,_,rfl,rfl⟩
    ·cases h1
   obtain ⟨k,n,k',m,rfl,rfl⟩:=hi
   have e1:=hr l _ ha
   have e2:=hr c _ hb
   generalize hρ1:ρ' l=lv at e1
   generalize hρ2:ρ' c=cv at e2
   cases e1;cases e2
   simp only [hρ1,hρ2]
   exact outNew (opMakeSlice_run r h1)
  ·cases hh
 ·rename_i t x lo hi e
  rw [e]
  split at hh
  ·rename_i v l g hv hl hg
   split at hh
   ·rename_i s
    split at hh
    ·rename_i hp
     simp only [Bool.and_eq_true] at hp
     obtain ⟨u,h1,rfl⟩:=valH_eq hh
     obtain ⟨g1,g2⟩:=flatV_run h1 w
     have e1:=hr x _ hv
     generalize hρ1:ρ' x=xv at e1
     cases e1
     simp only [hρ1,optPlain hr hl hp.1,optPlain hr hg hp.2]
     exact outVal' r ⟨_,g1,g2 E⟩
    ·cases hh
   ·obtain ⟨u,h1,rfl⟩:=valH_eq hh
    obtain ⟨b1,b2⟩:=opSlice_bounds h1
    dsimp only
    rw [optBound hr hl b1,optBound hr hg b2]
    exact outVal' r (opSlice_run r h1 (hr x v hv))
  ·cases hh
 ·rename_i t x lo hi m e
  rw [e]
  split at hh
  ·rename_i v l g mv hv hl hg hm
   obtain ⟨u,h1,rfl⟩:=valH_eq hh
   obtain ⟨b1,b2,b3⟩:=opSlice3_bounds h1
   obtain ⟨k,n,rfl⟩:=b3 _ rfl
   have e3:=hr m _ hm
   generalize hρ3:ρ' m=mv' at e3
   cases e3
   dsimp only
   rw [optBound hr hl b1,optBound hr hg b2]
   simp only [Option.map_some,hρ3]
   exact outVal' r (opSlice3_run r h1 (hr x v hv))
  ·cases hh
 ·rename_i s x f e
  rw [e]
  split at hh
  ·rename_i a ha
   obtain ⟨u,h1,rfl⟩:=valH_eq hh
   exact outVal' r (opFieldAddr_run h1 (hr x a ha) w)
  ·cases hh
 ·rename_i s x f e
  rw [e]
  split at hh
  ·rename_i a ha
   obtain ⟨u,h1,rfl⟩:=valH_eq hh
   exact outVal' r (opField_run h1 (hr x a ha) w)
  ·cases hh
 ·rename_i t x i e
  rw [e]
  split at hh
  ·rename_i a b ha hb
   obtain ⟨u,h1,rfl⟩:=valH_eq hh
   have hi:∃ k n,b=.int k n:=by
    unfold opIndexAddr at h1
    split at h1
    ·exact ⟨_,_,rfl⟩
    ·cases h1
   obtain ⟨k,n,rfl⟩:=hi
   have e2:=hr i _ hb
   generalize hρ2:ρ' i=iv at e2
   cases e2
   simp only [hρ2]
   exact outVal' r (opIndexAddr_run h1 (hr x a ha) w)
  ·cases hh
 ·rename_i t x i e
  rw [e]
  split at hh
  ·rename_i a b ha hb
   obtain ⟨u,h1,rfl⟩:=valH_eq hh
   have hi:∃ k n,b=.int k n:=by
    unfold opIndex at h1
    split at h1
    ·exact ⟨_,_,rfl⟩
    ·exact ⟨_,_,rfl⟩
    ·cases h1
   obtain ⟨k,n,rfl⟩:=hi
   have e2:=hr i _ hb
   generalize hρ2:ρ' i=iv at e2
   cases e2
   simp only [hρ2]
   exact outVal' r (opIndex_run h1 (hr x a ha) w)
  ·cases hh
 ·rename_i x st t ok e
  rw [e]
  split at hh
  ·rename_i a ha
   obtain ⟨u,h1,rfl⟩:=valH_eq hh
   exact outVal' r (opTypeAssert_run h1 (hr x a ha) w)
  ·cases hh
 ·rename_i t i e
  rw [e]
  split at hh
  ·rename_i a ha
   obtain ⟨u,h1,rfl⟩:=valH_eq hh
   exact outVal' r (opExtract_run h1 (hr t a ha) w)
  ·cases hh
 ·rename_i c e
  rw [e]
  exact absCall_ok r hr hh
 ·rename_i t e
  rw [e]
  cases hh
  exact outNew (opMakeMap_run r t)
 ·rename_i t x k ok e
  rw [e]
  split at hh
  ·rename_i a b ha hb
   obtain ⟨u,h1,rfl⟩:=valH_eq hh
   exact outVal' r (opLookup_run r h1 (hr x a ha) (hr k b hb))
  ·cases hh
 ·rename_i t m k x e
  rw [e]
  split at hh
  ·rename_i a b c ha hb hc
   split at hh
   ·rename_i h' hs
    cases hh
    obtain ⟨w',h1,h2,h3⟩:=opMapUpdate_run r hs (hr m a ha) (hr k b hb) (hr x c hc)
    exact ⟨E,w',unit_run h1,h2,h3⟩
   ·cases hh
  ·cases hh
 ·rename_i t m k x e
  rw [e]
  split at hh
  ·rename_i a b c ha hb hc
   split at hh
   ·rename_i h' hs
    cases hh
    obtain ⟨w',h1,h2,h3⟩:=opMapUpdate_run r hs (hr m a ha) (hr k b hb) (hr x c hc)
    exact ⟨E,w',unit_run h1,h2,h3⟩
   ·cases hh
  ·cases hh
 ·rename_i t m k e
  rw [e]
  split at hh
  ·rename_i a b ha hb
   obtain ⟨u,h',h1,rfl⟩:=valP_eq hh
   exact outNew (opMapEntry_run r h1 (hr m a ha) (hr k b hb))
  ·cases hh
 ·rename_i t m s x e
  rw [e]
  split at hh
  ·rename_i a b c ha hb hc
   split at hh
   ·rename_i h' hs
    cases hh
    obtain ⟨w',h1,h2,h3⟩:=opEntryStore_run r hs (hr m a ha) (hr s b hb) (hr x c hc)
    exact ⟨E,w',unit_run h1,h2,h3⟩
   ·cases hh
  ·cases hh
 ·rename_i t x e
  rw [e]
  split at hh
  ·rename_i a ha
   obtain ⟨u,h',h1,rfl⟩:=valP_eq hh
   exact outNew (opRange_run r h1 (hr x a ha))
  ·cases hh
 ·rename_i it s e
  rw [e]
  split at hh
  ·rename_i a ha
   obtain ⟨u,h',h1,rfl⟩:=valP_eq hh
   obtain ⟨v',w',g1,g2,g3,g4⟩:=opNext_run (t:=op.type) r h1 (hr it a ha)
   exact outNew ⟨E,v',w',g1,g2,g3,g4⟩
  ·cases hh
 ·rename_i it e
  rw [e]
  split at hh
  ·rename_i a ha
   obtain ⟨u,h1,rfl⟩:=valH_eq hh
   exact outVal' r (opEntry_run r h1 (hr it a ha))
  ·cases hh
 ·cases hh
end
end Go.Ab
end
section
namespace Go
def Ab.Fr:Option Nat→Fence
 | none=>Fence.wide
 | some l=>Fence.wide.inRound l
theorem Ab.Fr_round (r:Option Nat):(Ab.Fr r).round=r:=by cases r <;> rfl
theorem Ab.Fr_fn (r:Option Nat) (f:FuncId):(Ab.Fr r).fn f:=by cases r <;> trivial
theorem Ab.Fr_depth (r:Option Nat):(Ab.Fr r).depth=none:=by cases r <;> rfl
theorem Ab.Fr_room (r:Option Nat) (n:Nat):(Ab.Fr r).room n:=fun d hd=>by rw [Ab.Fr_depth] at hd;cases hd
theorem Ab.Fr_inRound (r:Option Nat) (l:Nat):(Ab.Fr r).inRound l=Ab.Fr (some l):=by cases r <;> rfl
theorem Ab.callsIn {r:Option Nat} {n:Nat} {P:Program} {f:FuncId} {args:Array Value} {w:World} {R:Ending→World→Prop} (h:Calls P f args w R):CallsIn (Ab.Fr r) n P f args w R:=by
 have h':CallsIn Fence.wide n P f args w R:=callsIn_wide.2 h
 cases r with
 | none=>exact h'
 | some l=>exact h'.inRound l
abbrev Code.wpR (r:Option Nat) (P:Program) (c:Code) (Q:Exit→Act→World→Prop) (a:Act) (w:World):Prop:=c.wpIn (Ab.Fr r) 0 P Q a w
def Oper.wpR (r:Option Nat) (P:Program) (o:Oper) (a:Act) (w:World) (K:Act→World→Prop) (W:Exit→Act→World→Prop):Prop:=o.wpIn (Ab.Fr r) 0 P a w K W
theorem stepR_scope {P:Program} {b:Frame} {a:Act} {k:List Item} {cs:List Frame} {w:World} {c:Code} :
  step P (lone (b.atR a (.code (.scope c)::k)) cs w)=.next (lone (b.atR a (.code c::.inScope c::k)) cs w) :=
 step_lone_go (by simp [stepG,stepG.exec,Frame.atR])
theorem stepR_inScope {P:Program} {b:Frame} {a:Act} {k:List Item} {cs:List Frame} {w:World} {c:Code} :
  step P (lone (b.atR a (.inScope c::k)) cs w)=.next (lone (b.atR a k) cs w) :=
 step_lone_go (by simp [stepG,stepG.exec,Frame.atR])
namespace Ab
section
variable {r:Option Nat} {P:Program} {o:Oper} {a:Act} {w w':World} {K:Act→World→Prop} {W:Exit→Act→World→Prop}
theorem wpR_of (hd:∀ c,o.op ≠ .defer c) (h:o.uponIn (Fr r) 0 P a K W ((execOp a.eval o).run P w)):o.wpR r P a w K W:=by
 refine ⟨fun f _=>Fr_fn r f,?_⟩
 rw [Oper.semAt_eq _ _ _ hd]
 exact h
theorem wpR_value {v:Value} (hd:∀ c,o.op ≠ .defer c) (h1:(execOp a.eval o).run P w=.ok (.value v) w') (hK:K (a.put o.dst v) w'):o.wpR r P a w K W :=
 wpR_of hd (by rw [h1];exact hK)
theorem wpR_skip (hd:∀ c,o.op ≠ .defer c) (h1:(execOp a.eval o).run P w=.ok .skip w') (hK:K (a.put o.dst undef) w'):o.wpR r P a w K W :=
 wpR_of hd (by rw [h1];exact hK)
theorem wpR_enter {f:FuncId} {args:Array Value} (hd:∀ c,o.op ≠ .defer c) (h1:(execOp a.eval o).run P w=.ok (.enter f args) w') (hK:Calls P f args w' fun
   | .returned v,w''=>K (a.put o.dst v) w''
   | .panicked chain,w''=>W (.panic chain) a w''
   | .outgrown,_=>LetsOut W):o.wpR r P a w K W :=
 wpR_of hd (by rw [h1];exact ⟨fun h=>(by rw [Fr_depth] at h;cases h),callsIn hK⟩)
theorem wpR_panic {v:Value} (hd:∀ c,o.op ≠ .defer c) (h1:(execOp a.eval o).run P w=.halt (.panic v) w') (hW:W (.panic [{ v,recovered:=false }]) a w'):o.wpR r P a w K W :=
 wpR_of hd (by rw [h1];exact hW)
theorem wpR_round {l:Nat} {f:FuncId} {tmps:Array Value} {assign body:Code} (hd:∀ c,o.op ≠ .defer c) (h1:(execOp a.eval o).run P w=.ok (.round l f tmps assign body) w')
  (hK:RoundIn (Fr r) 0 P l f tmps assign body w' fun
   | .returned v,w''=>K (a.put o.dst v) w''
   | .panicked chain,w''=>W (.panic chain) a w''
   | .outgrown,_=>LetsOut W):o.wpR r P a w K W :=
 wpR_of hd (by rw [h1];exact ⟨fun h=>(by rw [Fr_depth] at h;cases h),hK⟩)
theorem abs_nodefer {ρ:Operand→Option Value} {h:AH} {out:Out} (hh:absOp P ρ o h=some out):∀ c,o.op ≠ .defer c:=by
 intro c e
 unfold absOp at hh
 rw [e] at hh
 cases hh
end
def wpOpsR (r:Option Nat) (P:Program) (ops:Array Oper) (Q:Exit→Act→World→Prop):List Nat→Act→World→Prop
 | [],a,w=>Q .normal a w
 | i::rest,a,w =>
  match ops[i]? with
  | none=>wpOpsR r P ops Q rest a w
  | some o =>
   if Region.wanted o (yielded ops a.tmps) then o.wpR r P a w (wpOpsR r P ops Q rest) Q
   else wpOpsR r P ops Q rest (a.put o.dst undef) w
theorem wpOpsR_in {r:Option Nat} {P:Program} {ops:Array Oper} {Q:Exit→Act→World→Prop} (l:List Nat):∀ a w,wpOpsR r P ops Q l a w→wpOpsIn (Fr r) 0 P ops Q l a w:=by
 have e:∀ l,wpOpsR r P ops Q l=wpOpsIn (Fr r) 0 P ops Q l:=by
  intro l
  induction l with
  | nil=>rfl
  | cons i rest ih =>
   funext a w
   simp only [wpOpsR,wpOpsIn,ih,Oper.wpR]
   cases ops[i]? with
   | none=>rfl
   | some o =>
    simp only
    split
    ·rfl
    ·exact propext ⟨fun h=>⟨fun f _=>Fr_fn r f,h⟩,fun h=>h.2⟩
 exact fun a w h=>(e l) ▸ h
theorem wpR_region {r:Option Nat} {P:Program} {id:Nat} {ops:Array Oper} {Q:Exit→Act→World→Prop} {a:Act} {w:World} (h:wpOpsR r P ops Q (List.range ops.size) a w):(Code.region id ops false).wpR r P Q a w :=
 wpIn_region (wpOpsR_in _ _ _ h)
theorem wpR_region_draw {r:Option Nat} {P:Program} {id:Nat} {ops:Array Oper} {Q:Exit→Act→World→Prop} {a:Act} {w:World}
  (h:∀ t,wpOpsR r P ops Q (Region.schedule (P.follows .mixedOrders) ops t) a { w with drawn:=w.drawn + 1 }):(Code.region id ops true).wpR r P Q a w :=
 wpIn_region_draw fun t=>wpOpsR_in _ _ _ (h t)
theorem RW.beside {P:Program} {E:Ren} {h:AH} {w:World} (r:RW P E h w) (o:Obj):RW P E h (w.alloc o)∧Ext E w E (w.alloc o):=by
 have get:∀ n,n < w.heap.size→(w.alloc o).heap[n]?=w.heap[n]?:=fun n hn=>by
  show (w.heap.push o)[n]?=_
  rw [Array.getElem?_push,if_neg (by omega)]
 refine ⟨⟨r.glob,fun k n hk=>?_,r.sdom,fun k o' s hk=>?_,r.inj,fun n c hn=>?_,r.icy,r.sep⟩,⟨.refl E,fun k n hk=>.inl ⟨k,hk⟩,by rw [World.size_alloc];omega,fun n hn _=>get n hn,rfl,rfl,rfl,Nat.le_refl _,fun n hn=>?_⟩⟩
 ·have:=r.dom k n hk
  exact ⟨this.1,by rw [World.size_alloc];omega⟩
 ·obtain ⟨n,o2,g1,g2,g3,g4⟩:=r.live k o' s hk
  exact ⟨n,o2,g1,by rw [get n (r.dom k n g1).2];exact g2,g3,g4⟩
 ·obtain ⟨cw,e,fz,g1,g2,g3⟩:=r.frz n c hn
  exact ⟨cw,e,fz,by rw [get n (r.frzLt hn)];exact g1,g2,g3⟩
 ·obtain ⟨c,hc⟩:=Option.isSome_iff_exists.1 hn
  exact get n (r.frzLt hc)
theorem RW.asideFrom {P:Program} {E:Ren} {h:AH} {w:World} (r:RW P E h w) {b:Nat} (o:Obj) (hb:∀ k,E.at_ k ≠ some b) (hf:E.fro b=none):RW P E h (w.putObj b o):=by
 have get:∀ n,n ≠ b→(w.putObj b o).heap[n]?=w.heap[n]?:=fun n hn=>World.putObj_heap_other hn
 refine ⟨r.glob,fun k n hk=>?_,r.sdom,fun k o' s hk=>?_,r.inj,fun n c hn=>?_,r.icy,r.sep⟩
 ·have:=r.dom k n hk
  exact ⟨this.1,by simp;exact this.2⟩
 ·obtain ⟨n,o2,g1,g2,g3,g4⟩:=r.live k o' s hk
  exact ⟨n,o2,g1,by rw [get n (fun e=>hb k (e ▸ g1))];exact g2,g3,g4⟩
 ·obtain ⟨cw,e,fz,g1,g2,g3⟩:=r.frz n c hn
  exact ⟨cw,e,fz,by rw [get n (fun e=>by subst e;rw [hf] at hn;cases hn)];exact g1,g2,g3⟩
end Ab
end Go
end
section
namespace Go.Ab
structure RT (E:Ren) (a:AA) (tmps:Array Value):Prop where
 size:tmps.size=a.n
 get:∀ t v,a.get t=some v→RV E v (tmps.getD t undef)
theorem RT.mono {E E':Ren} (le:E.Le E') {a:AA} {t:Array Value} (h:RT E a t):RT E' a t:=⟨h.size,fun k v e=>(h.get k v e).mono le⟩
theorem rv_undef {E:Ren}:RV E undef undef:=.tuple rfl fun i v v' h _=>by simp at h
theorem getD_set (c:Array Value) (d t:Nat) (v:Value):(c.setIfInBounds d v).getD t undef=if d=t∧d < c.size then v else c.getD t undef:=by
 simp only [Array.getD_eq_getD_getElem?,Array.getElem?_setIfInBounds]
 by_cases h:d=t
 ·subst h
  by_cases h2:d < c.size
  ·simp [h2]
  ·simp [h2]
 ·simp [h]
theorem AA.get_put (a:AA) (d t:Nat) (v:Value):(a.put (some d) v).get t=if d=t∧d < a.n then some v else a.get t:=by
 unfold AA.put AA.get
 by_cases h2:d < a.n
 ·simp only [h2,if_true,and_true]
  rw [T.get_put _ _ _ _ _ (by omega) (Nat.le_refl _) (by omega)]
  by_cases h:d=t
  ·subst h;simp
  ·rw [if_neg (by omega),if_neg h]
 ·simp [h2]
theorem RT.put {E:Ren} {a:AA} {x:Act} (h:RT E a x.tmps) (d:Option Tmp) {v v':Value} (hv:RV E v v'):RT E (a.put d v) (x.put d v').tmps:=by
 cases d with
 | none=>exact h
 | some d =>
  refine ⟨?_,fun t u hu=>?_⟩
  ·simp only [Act.put,AA.put,Array.size_setIfInBounds,h.size]
   split <;> rfl
  ·rw [AA.get_put] at hu
   simp only [Act.put]
   rw [getD_set,h.size]
   split
   ·rename_i e;rw [if_pos e] at hu;cases hu;exact hv
   ·rename_i e;rw [if_neg e] at hu;exact h.get t u hu
theorem RT.opnd {P:Program} {E:Ren} {h:AH} {w:World} (r:RW P E h w) {a:AA} {x:Act} (ht:RT E a x.tmps):OpsOk E (a.opnd P) x.eval:=by
 intro o v hv
 cases o with
 | tmp t=>exact ht.get t v hv
 | const u =>
  simp only [AA.opnd] at hv
  split at hv
  ·rename_i hp;cases hv;exact RV.of_plain hp
  ·cases hv
 | global g =>
  simp only [AA.opnd] at hv
  split at hv
  ·rename_i hg;cases hv;exact .ptr (r.glob g hg)
  ·cases hv
 | func f=>cases hv;exact .func _ rfl rfl (fun i v v' h _=>by simp at h) (fun i v v' h _=>by simp at h)
theorem RT.yielded {E:Ren} {a:AA} {x:Act} (ht:RT E a x.tmps) (ops:Array Oper) {o:Oper} (hk:a.knows ops o=true) :
  Region.wanted o (a.yielded ops)=Region.wanted o (Go.yielded ops x.tmps):=by
 unfold Region.wanted
 unfold AA.knows at hk
 cases hg:o.guard with
 | none=>rfl
 | some jw =>
  obtain ⟨j,want⟩:=jw
  rw [hg] at hk
  simp only at hk ⊢
  congr 1
  unfold AA.yielded Go.yielded
  cases hd:(ops[j]?).bind (·.dst) with
  | none=>rfl
  | some d =>
   rw [hd] at hk
   simp only [Option.bind_some] at hk ⊢
   by_cases h:d < a.n
   ·rw [if_pos h] at hk ⊢
    obtain ⟨v,hv⟩:=Option.isSome_iff_exists.1 hk
    have hr:=ht.get d v hv
    rw [Array.getD_eq_getD_getElem?] at hr
    have hlt:d < x.tmps.size:=by rw [ht.size];exact h
    rw [Array.getElem?_eq_getElem hlt] at hr ⊢
    simp only [Option.getD_some] at hr
    rw [hv]
    generalize x.tmps[d]=u at hr ⊢
    cases hr <;> rfl
   ·rw [if_neg h]
    rw [Array.getElem?_eq_none (Nat.le_of_not_lt (by rw [ht.size];exact h))]
theorem RT.less {E:Ren} {a b:AA} {t:Array Value} (h:RT E a t) (hn:b.n=a.n) (hg:∀ k v,b.get k=some v→a.get k=some v):RT E b t :=
 ⟨by rw [hn];exact h.size,fun k v e=>h.get k v (hg k v e)⟩
theorem AA.keep_n (a:AA):∀ l,(a.keep l).n=a.n:=by
 intro l
 induction l with
 | nil=>rfl
 | cons t l ih =>
  simp only [AA.keep]
  split
  ·rfl
  ·exact ih
theorem AA.keep_cons (a:AA) (t:Nat) (l:List Nat) (k:Nat):(a.keep (t::l)).get k=if k=t∧(a.get t).isSome then a.get t else (a.keep l).get k:=by
 simp only [AA.keep]
 cases h:a.get t with
 | none=>simp
 | some v =>
  unfold AA.get
  simp only
  rw [T.get_put _ _ _ _ _ (by omega) (Nat.le_refl _) (by omega)]
  by_cases e:k=t
  ·subst e;simp
  ·rw [if_neg (by omega)];simp [e]
theorem AA.keep_get (a:AA):∀ l k v,(a.keep l).get k=some v→a.get k=some v:=by
 intro l
 induction l with
 | nil=>intro k v h;simp [AA.keep,AA.get,T.get] at h
 | cons t l ih =>
  intro k v h
  rw [AA.keep_cons] at h
  split at h
  ·rename_i e;rw [e.1];exact h
  ·exact ih k v h
theorem AA.keep_mem (a:AA):∀ l,∀ t ∈ l,(a.keep l).get t=a.get t:=by
 intro l
 induction l with
 | nil=>intro t ht;cases ht
 | cons s l ih =>
  intro t ht
  rw [AA.keep_cons]
  split
  ·rename_i e;rw [e.1]
  ·rename_i e
   rcases List.mem_cons.1 ht with rfl | hm
   ·cases hk:(a.keep l).get t with
    | none =>
     cases hv:a.get t with
     | none=>rfl
     | some v=>exact absurd ⟨rfl,by rw [hv];rfl⟩ e
    | some v=>rw [AA.keep_get a l t v hk]
   ·exact ih t hm
theorem AA.keep_only (a:AA):∀ l t v,(a.keep l).get t=some v→t ∈ l:=by
 intro l
 induction l with
 | nil=>intro t v h;simp [AA.keep,AA.get,T.get] at h
 | cons s l ih =>
  intro t v h
  rw [AA.keep_cons] at h
  split at h
  ·rename_i e;rw [e.1];simp
  ·exact List.mem_cons_of_mem _ (ih t v h)
theorem RT.keep {E:Ren} {a:AA} {t:Array Value} (h:RT E a t) (l:List Nat):RT E (a.keep l) t:=h.less (a.keep_n l) (a.keep_get l)
def CallOk (P:Program) (call:CallF):Prop:=∀ f args h v q h',call f args h=some (v,q,h')→(q=false→h' = h)∧∀ E w args',RW P E h w→RA E args args' →
 Calls P f args' w fun e w'=>∃ E' v',e=.returned v'∧RW P E' h' w'∧Ext E w E' w'∧RV E' v v'
theorem tmsOf_get:∀ (l:List Value) (k:Nat) (t:T Value) (i:Nat),(tmsOf k l t).get (i + 1)=if k ≤ i∧i < k + l.length then l[i - k]? else t.get (i + 1):=by
 intro l
 induction l with
 | nil=>intro k t i;rw [tmsOf,if_neg (by simp only [List.length_nil];omega)]
 | cons v l ih =>
  intro k t i
  rw [tmsOf,ih,T.get_put _ _ _ _ _ (by omega) (Nat.le_refl _) (by omega)]
  simp only [List.length_cons]
  by_cases h:k + 1 ≤ i∧i < k + 1 + l.length
  ·rw [if_pos h,if_pos (by omega)]
   have:i - k=(i - (k + 1)) + 1:=by omega
   rw [this,List.getElem?_cons_succ]
  ·rw [if_neg h]
   by_cases hk:i=k
   ·subst hk;rw [if_pos rfl,if_pos (by omega)];try simp
   ·rw [if_neg (by omega),if_neg (by omega)]
theorem RT.start {E:Ren} {args args':Array Value} (h:RA E args args') (n:Nat) :
  RT E ⟨tmsOf 0 args.toList .leaf,args.size + (n - args.size),{}⟩ (args'++Array.replicate (n - args'.size) undef):=by
 refine ⟨by simp [h.1],fun t v hv=>?_⟩
 unfold AA.get at hv
 rw [tmsOf_get] at hv
 rw [Array.getD_eq_getD_getElem?]
 simp only [Nat.zero_le,Nat.zero_add,Array.length_toList,true_and,Nat.sub_zero] at hv
 by_cases ht:t < args.size
 ·rw [if_pos ht] at hv
  rw [Array.getElem?_append_left (by rw [← h.1];exact ht)]
  have h1:args[t]?=some args[t]:=Array.getElem?_eq_getElem ht
  obtain ⟨v',h2,h3⟩:=h.get h1
  rw [Array.getElem?_toList,h1] at hv
  cases hv
  rw [h2]
  exact h3
 ·rw [if_neg ht] at hv
  simp [T.get] at hv
theorem resultsOf_run {P:Program} {E:Ren} {h:AH} {w:World} (r:RW P E h w) {a:AA} {tmps:Array Value} (rt:RT E a tmps):∀ {l:List ResultVar} {vs:List Value},resultsOf P a h l=some vs →
  ∃ vs',(l.mapM fun
   | .tmp t=>pure (tmps.getD t undef)
   | .cell a t=>do loadVar t (← asAddr (tmps.getD a undef)):Sem (List Value)).run P w=.ok vs' w∧RA E vs.toArray vs'.toArray∧vs'.length=vs.length:=by
 intro l
 induction l with
 | nil=>intro vs h;cases h;exact ⟨[],rfl,.empty,rfl⟩
 | cons x l ih =>
  intro vs hh
  unfold resultsOf at hh
  split at hh
  ·cases ‹_::_=[]›
  ·rename_i t l' heq
   cases heq
   split at hh
   ·rename_i v us hv hus
    cases hh
    obtain ⟨vs',h1,h2,h3⟩:=ih hus
    refine ⟨tmps.getD t undef::vs',?_,?_,by simp [h3]⟩
    ·rw [List.mapM_cons]
     simp only [Sem.run_bind,Sem.run_pure,Result.andThen_ok,h1]
    ·have:=(RA.one (rt.get t v hv)).append h2
     simpa using this
   ·cases hh
  ·rename_i c t l' heq
   cases heq
   split at hh
   ·rename_i v us hv hus
    cases hh
    obtain ⟨vs',h1,h2,h3⟩:=ih hus
    rw [Option.bind_eq_some_iff] at hv
    obtain ⟨cv,hcv,hv⟩:=hv
    have hcp:=rt.get c cv hcv
    obtain ⟨v',g1,g2⟩:=opLoad_run r hv hcp
    have g3:(do loadVar t (← asAddr (tmps.getD c undef)):Sem Value).run P w=.ok v' w:=by
     unfold opLoad at hv
     split at hv
     ·rename_i ad
      generalize tmps.getD c undef=u at hcp g1 ⊢
      cases hcp
      simpa [Instr.loadAt,Instr.sureAddr,asAddr] using g1
     ·obtain ⟨b',off,c',e1,_⟩:=fp_inv hcp
      rw [e1] at g1 ⊢
      simpa [Instr.loadAt,Instr.sureAddr,asAddr] using g1
     ·cases hv
    refine ⟨v'::vs',?_,?_,by simp [h3]⟩
    ·rw [List.mapM_cons]
     simp only [Sem.run_bind] at g3
     simp only [Sem.run_bind,Sem.run_pure,Result.andThen_ok,g3,h1]
    ·have:=(RA.one g2).append h2
     simpa using this
   ·cases hh
theorem results_run {P:Program} {E:Ren} {h:AH} {w:World} (r:RW P E h w) {a:AA} {tmps:Array Value} (rt:RT E a tmps) {fn:Func} {vs:List Value} (hh:resultsOf P a h fn.results.toList=some vs) :
  ∃ v',(results fn tmps).run P w=.ok v' w∧RV E (oneOf vs) v':=by
 obtain ⟨vs',h1,h2,h3⟩:=resultsOf_run r rt hh
 have hm:(results fn tmps).run P w=.ok (if h:vs'.toArray.size=1 then vs'.toArray[0] else .tuple vs'.toArray) w:=by
  unfold results
  rw [Array.mapM_eq_mapM_toList]
  simp only [Sem.run_bind,Sem.run_map,Sem.run_pure]
  erw [h1]
  rfl
 rw [hm]
 match vs,vs',h3,h2 with
 | [v],[v'],_,h2 =>
  refine ⟨v',rfl,?_⟩
  exact h2.2 0 v v' (by simp) (by simp)
 | [],[],_,h2=>exact ⟨_,rfl,RV.tup h2⟩
 | a::b::l,a'::b'::l',h3,h2 =>
  refine ⟨.tuple (a'::b'::l').toArray,?_,RV.tup h2⟩
  rw [dif_neg (by simp)]
end Go.Ab
end
