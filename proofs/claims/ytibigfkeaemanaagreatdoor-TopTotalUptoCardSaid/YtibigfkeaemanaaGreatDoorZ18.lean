import Derived.Test.YtibigfkeaemanaaGreatDoorZ16
import Derived.Test.YtibigfkeaemanaaGreatDoorZ17
set_option linter.unusedVariables false
set_option linter.unusedSimpArgs false
section
namespace Go.Lang
def isDigits (t:ByteArray):Prop:=0 < t.size∧t.size ≤ 9∧∀ c ∈ t.data.toList,digit c=true
def isName (t:ByteArray):Prop:=∀ c ∈ t.data.toList,alnum c=true
structure TokGood (t:Tok):Prop where
 cls:t.cls ≠ 0
 le:t.cls ≤ 4
 at_:t.at_ ≤ 4096
 name:t.cls=1→isName t.text
 num:t.cls=2→isDigits t.text
 size:t.text.size ≤ 4096
inductive TokOK:List Tok→Prop
 | one (e:Tok) (h:e.cls=0) (ht:e.text=empty) (ha:e.at_ ≤ 4096):TokOK [e]
 | cons {t:Tok} {ts:List Tok} (h:TokGood t) (hs:TokOK ts):TokOK (t::ts)
theorem TokOK.ne {ts:List Tok} (h:TokOK ts):ts ≠ []:=by cases h <;> simp
theorem TokOK.pos {ts:List Tok} (h:TokOK ts):0 < ts.length:=List.length_pos_iff.2 h.ne
theorem TokOK.tail {t:Tok} {ts:List Tok} (h:TokOK (t::ts)) (hc:t.cls ≠ 0):TokOK ts:=by
 cases h with
 | one _ h=>exact absurd h hc
 | cons _ hs=>exact hs
theorem TokOK.good {t:Tok} {ts:List Tok} (h:TokOK (t::ts)) (hc:t.cls ≠ 0):TokGood t:=by
 cases h with
 | one _ h=>exact absurd h hc
 | cons h hs=>exact h
theorem TokOK.head {ts:List Tok} (h:TokOK ts):∃ t r,ts=t::r∧t.at_ ≤ 4096∧t.cls ≤ 4:=by
 cases h with
 | one e h ht ha=>exact ⟨e,[],rfl,ha,by omega⟩
 | cons h hs=>exact ⟨_,_,rfl,h.at_,h.le⟩
def Shr (ts r:List Tok):Prop:=TokOK r∧r.length < ts.length
theorem Shr.trans {a b c:List Tok} (x:Shr a b) (y:Shr b c):Shr a c:=⟨y.1,Nat.lt_trans y.2 x.2⟩
theorem Shr.of_tail {t:Tok} {ts:List Tok} (h:TokOK (t::ts)) (hc:t.cls ≠ 0):Shr (t::ts) ts:=⟨h.tail hc,by simp⟩
theorem isT_cls {ts:List Tok} {c:Nat} {x:ByteArray} (h:isT ts c x=true):∃ t r,ts=t::r∧t.cls=c:=by
 cases ts with
 | nil=>cases h
 | cons t r=>simp only [isT,Bool.and_eq_true,beq_iff_eq] at h;exact ⟨t,r,rfl,h.1⟩
theorem isT_shr {ts:List Tok} {c:Nat} {x:ByteArray} (h:isT ts c x=true) (hc:c ≠ 0) (ok:TokOK ts):Shr ts ts.tail:=by
 obtain ⟨t,r,rfl,h1⟩:=isT_cls h
 exact Shr.of_tail ok (by rw [h1];exact hc)
theorem want_shr {ts r:List Tok} {c:Nat} {x:ByteArray} (h:want c x ts=.ok r) (hc:c ≠ 0) (ok:TokOK ts):Shr ts r:=by
 unfold want at h
 split at h
 ·cases h;rename_i h1;exact isT_shr h1 hc ok
 ·cases h
theorem fresh_shr {ts r:List Tok} {t:Tok} (h:fresh ts=.ok (t,r)) (ok:TokOK ts):ts=t::r∧t.cls=1∧isWord t.text=false∧Shr ts r:=by
 cases ts with
 | nil=>cases h
 | cons u r' =>
  simp only [fresh] at h
  split at h
  ·cases h
  ·rename_i h1
   cases h
   simp only [bne_iff_ne,ne_eq,Bool.or_eq_true,not_or,Decidable.not_not,Bool.not_eq_true] at h1
   exact ⟨rfl,h1.1,h1.2,Shr.of_tail ok (by omega)⟩
theorem unbound_shr {vs:List Var} {ts r:List Tok} {x:ByteArray} (h:unboundF vs ts=.ok (x,r)) (ok:TokOK ts):Shr ts r:=by
 unfold unboundF at h
 split at h
 ·cases h
 ·rename_i t r' h1
  split at h
  ·cases h
  ·cases h;exact (fresh_shr h1 ok).2.2.2
abbrev ExprRd:=List Tok→R ((Expr × Nat) × List Tok)
def RdOK (rd:ExprRd):Prop:=∀ ts e k r,TokOK ts→rd ts=.ok ((e,k),r)→Shr ts r∧e.at_=headAt ts∧k < 256
theorem ofK_shr {rd:ExprRd} (hr:RdOK rd) {k:Nat} {ts r:List Tok} {e:Expr} (ok:TokOK ts) (h:ofK rd k ts=.ok (e,r)):Shr ts r:=by
 unfold ofK at h
 split at h
 ·rename_i e' k' r' h1
  split at h
  ·cases h;exact (hr _ _ _ _ ok h1).1
  ·cases h
 ·cases h
theorem argsF_shr {rd:ExprRd} (hr:RdOK rd):∀ {ks:List UInt8} {first:Bool} {ts r:List Tok} {es:List Expr},TokOK ts→argsF rd ks first ts=.ok (es,r)→TokOK r∧r.length ≤ ts.length:=by
 intro ks
 induction ks with
 | nil=>intro first ts r es ok h;cases h;exact ⟨ok,Nat.le_refl _⟩
 | cons k ks ih =>
  intro first ts r es ok h
  simp only [argsF] at h
  split at h
  ·cases h
  ·rename_i ts1 h1
   have ok1:TokOK ts1∧ts1.length ≤ ts.length:=by
    cases first with
    | true=>cases h1;exact ⟨ok,Nat.le_refl _⟩
    | false =>
     have:=want_shr h1 (by omega) ok
     exact ⟨this.1,Nat.le_of_lt this.2⟩
   split at h
   ·cases h
   ·rename_i e ts2 h2
    have s2:=ofK_shr hr ok1.1 h2
    split at h
    ·cases h
    ·rename_i es' ts3 h3
     cases h
     have s3:=ih s2.1 h3
     exact ⟨s3.1,by have:=s2.2;omega⟩
theorem callF_shr {rd:ExprRd} (hr:RdOK rd) {c:Nat} {t:Tok} {ts r:List Tok} {e:Expr} {k:Nat} (ok:TokOK ts.tail) (hp:0 < ts.length) (h:callF rd c t ts=.ok ((e,k),r)):Shr ts r∧e.at_=t.at_∧k < 256:=by
 unfold callF at h
 split at h
 ·cases h
 ·split at h
  ·cases h
  ·rename_i s hs
   split at h
   ·cases h
   ·rename_i es ts1 h1
    have s1:=argsF_shr hr ok h1
    split at h
    ·cases h
    ·rename_i ts2 h2
     have s2:=want_shr h2 (by omega) s1.1
     cases h
     refine ⟨⟨s2.1,?_⟩,rfl,UInt8.toNat_lt _⟩
     have:=s2.2
     have:=s1.2
     simp at this
     omega
theorem exprF_ok:∀ (n c:Nat) {vs:List Var},(∀ v ∈ vs,v.2 < 256)→RdOK (exprF n c vs):=by
 intro n
 induction n with
 | zero=>intro c vs hv ts e k r ok h;cases h
 | succ n ih =>
  intro c vs hv ts e k r ok h
  cases ts with
  | nil=>cases h
  | cons t r0 =>
   simp only [exprF] at h
   split at h
   ·rename_i h2
    cases h
    exact ⟨Shr.of_tail ok (by simp at h2;omega),rfl,by decide⟩
   ·split at h
    ·rename_i h2
     cases h
     exact ⟨Shr.of_tail ok (by simp at h2;omega),rfl,by decide⟩
    ·split at h
     ·cases h
     ·rename_i t' r' h1
      obtain ⟨e1,e2,_,s1⟩:=fresh_shr h1 ok
      cases e1
      split at h
      ·rename_i h3
       have s3:=isT_shr h3 (by omega) s1.1
       have:=callF_shr (ih (c + 1) hv) s3.1 s1.1.pos h
       exact ⟨s1.trans this.1,this.2.1,this.2.2⟩
      ·split at h
       ·rename_i k' hk
        cases h
        refine ⟨s1,rfl,?_⟩
        unfold kindOf at hk
        obtain ⟨v,hv1,rfl⟩:=Option.map_eq_some_iff.1 hk
        exact hv v (List.mem_of_find?_eq_some hv1)
       ·cases h
def VsOK (vs:List Var):Prop:=∀ v ∈ vs,v.2 < 256
theorem VsOK.append {a b:List Var} (x:VsOK a) (y:VsOK b):VsOK (a++b):=fun v hv=>(List.mem_append.1 hv).elim (x v) (y v)
theorem VsOK.one {x:ByteArray} {k:Nat} (h:k < 256):VsOK [(x,k)]:=fun v hv=>by rw [List.mem_singleton.1 hv];exact h
theorem expr0_ok {vs:List Var} (hv:VsOK vs):RdOK (expr0 vs):=fun ts e k r ok h=>exprF_ok _ _ hv ts e k r ok h
def BlkOK (blk:BlockRd):Prop:=∀ l vs ts b r,VsOK vs→TokOK ts→blk l vs ts=.ok (b,r)→Shr ts r
theorem emitF_shr {vs:List Var} {ts r:List Tok} {s:Stmt} (hv:VsOK vs) (ok:TokOK ts) (h:emitF vs ts=.ok (s,r)):Shr ts r:=by
 unfold emitF at h
 split at h
 ·cases h
 ·rename_i a t1 h1
  have s1:=ofK_shr (expr0_ok hv) ok h1
  split at h
  ·cases h
  ·rename_i t2 h2
   have s2:=want_shr h2 (by omega) s1.1
   split at h
   ·cases h
   ·rename_i b t3 h3
    have s3:=ofK_shr (expr0_ok hv) s2.1 h3
    split at h
    ·cases h
    ·rename_i t4 h4
     have s4:=want_shr h4 (by omega) s3.1
     cases h
     exact s1.trans (s2.trans (s3.trans s4))
theorem letF_shr {vs:List Var} {ts r:List Tok} {s:Stmt} {v:Var} (hv:VsOK vs) (ok:TokOK ts) (h:letF vs ts=.ok ((s,v),r)):Shr ts r∧v.2 < 256:=by
 unfold letF at h
 split at h
 ·cases h
 ·rename_i x t1 h1
  have s1:=unbound_shr h1 ok
  split at h
  ·cases h
  ·rename_i t2 h2
   have s2:=want_shr h2 (by omega) s1.1
   split at h
   ·cases h
   ·rename_i e k t3 h3
    have s3:=expr0_ok hv _ _ _ _ s2.1 h3
    split at h
    ·cases h
    ·rename_i t4 h4
     have s4:=want_shr h4 (by omega) s3.1.1
     cases h
     exact ⟨s1.trans (s2.trans (s3.1.trans s4)),s3.2.2⟩
theorem ifF_shr {blk:BlockRd} (hb:BlkOK blk) {vs:List Var} {ts r:List Tok} {s:Stmt} (hv:VsOK vs) (ok:TokOK ts) (h:ifF blk vs ts=.ok (s,r)):Shr ts r:=by
 unfold ifF at h
 split at h
 ·cases h
 ·rename_i a t1 h1
  have s1:=ofK_shr (expr0_ok hv) ok h1
  split at h
  ·cases h
  ·rename_i b t2 h2
   have s2:=hb _ _ _ _ _ hv s1.1 h2
   split at h
   ·rename_i he
    have s3:=isT_shr he (by omega) s2.1
    split at h
    ·cases h
    ·rename_i c t4 h4
     have s4:=hb _ _ _ _ _ hv s3.1 h4
     cases h
     exact s1.trans (s2.trans (s3.trans s4))
   ·cases h
    exact s1.trans s2
theorem forF_shr {blk:BlockRd} (hb:BlkOK blk) {vs:List Var} {ts r:List Tok} {s:Stmt} (hv:VsOK vs) (ok:TokOK ts) (h:forF blk vs ts=.ok (s,r)):Shr ts r:=by
 unfold forF at h
 split at h
 ·cases h
 ·rename_i x t1 h1
  have s1:=unbound_shr h1 ok
  split at h
  ·cases h
  ·rename_i t2 h2
   have s2:=want_shr h2 (by omega) s1.1
   split at h
   ·cases h
   ·rename_i a t3 h3
    have s3:=ofK_shr (expr0_ok hv) s2.1 h3
    split at h
    ·cases h
    ·rename_i b t4 h4
     have s4:=hb _ _ _ _ _ (hv.append (.one (by decide))) s3.1 h4
     cases h
     exact s1.trans (s2.trans (s3.trans s4))
theorem eachF_shr {blk:BlockRd} (hb:BlkOK blk) {vs:List Var} {ts r:List Tok} {s:Stmt} (hv:VsOK vs) (ok:TokOK ts) (h:eachF blk vs ts=.ok (s,r)):Shr ts r:=by
 unfold eachF at h
 split at h
 ·cases h
 ·rename_i x t1 h1
  have s1:=unbound_shr h1 ok
  split at h
  ·cases h
  ·rename_i t2 h2
   have s2:=want_shr h2 (by omega) s1.1
   split at h
   ·cases h
   ·rename_i a t3 h3
    have s3:=ofK_shr (expr0_ok hv) s2.1 h3
    split at h
    ·cases h
    ·rename_i t4 h4
     have s4:=want_shr h4 (by omega) s3.1
     split at h
     ·cases h
     ·rename_i b t5 h5
      have s5:=ofK_shr (expr0_ok hv) s4.1 h5
      split at h
      ·cases h
      ·rename_i c t6 h6
       have s6:=hb _ _ _ _ _ (hv.append (.one (by decide))) s5.1 h6
       cases h
       exact s1.trans (s2.trans (s3.trans (s4.trans (s5.trans s6))))
theorem map_ok {α β:Type} {x:R α} {f:α→β} {y:β} (h:x.map f=.ok y):∃ z,x=.ok z∧y=f z:=by
 cases x with
 | error e=>cases h
 | ok z=>cases h;exact ⟨z,rfl,rfl⟩
theorem stmtF_shr {blk:BlockRd} (hb:BlkOK blk) {vs vs':List Var} {ts r:List Tok} {s:Stmt} (hv:VsOK vs) (ok:TokOK ts) (h:stmtF blk vs ts=.ok ((s,vs'),r)):Shr ts r∧VsOK vs'∧∃ m,vs' = vs++m∧m.length ≤ 1:=by
 cases ts with
 | nil=>cases h
 | cons t r0 =>
  simp only [stmtF] at h
  split at h
  ·cases h
  ·rename_i h1
   have s1:Shr (t::r0) r0:=Shr.of_tail ok (by simp at h1;omega)
   have fin:∀ {f:R (Stmt × List Tok)},(∀ x,f=.ok x→Shr r0 x.2)→f.map (fun p=>((p.1,vs),p.2))=.ok ((s,vs'),r)→Shr (t::r0) r∧VsOK vs'∧∃ m,vs' = vs++m∧m.length ≤ 1:=fun hf hm=>by
    obtain ⟨z,hz,e⟩:=map_ok hm
    cases e
    exact ⟨s1.trans (hf _ hz),hv,[],by simp,by simp⟩
   split at h
   ·exact fin (fun x hx=>emitF_shr hv s1.1 hx) h
   ·split at h
    ·obtain ⟨z,hz,e⟩:=map_ok h
     cases e
     have:=letF_shr hv s1.1 hz
     exact ⟨s1.trans this.1,hv.append (.one this.2),_,rfl,by simp⟩
    ·split at h
     ·exact fin (fun x hx=>ifF_shr hb hv s1.1 hx) h
     ·split at h
      ·exact fin (fun x hx=>eachF_shr hb hv s1.1 hx) h
      ·split at h
       ·exact fin (fun x hx=>forF_shr hb hv s1.1 hx) h
       ·cases h
theorem stmtsF_shr:∀ (n b l:Nat) {vs:List Var} {ts r:List Tok} {ss:List Stmt},VsOK vs→TokOK ts→stmtsF n b l vs ts=.ok (ss,r)→Shr ts r:=by
 intro n
 induction n with
 | zero=>intro b l vs ts r ss _ _ h;cases h
 | succ n ih =>
  intro b l vs ts r ss hv ok h
  simp only [stmtsF] at h
  split at h
  ·rename_i h1
   cases h
   exact isT_shr h1 (by omega) ok
  ·split at h
   ·cases h
   ·rename_i s vs' t1 h1
    have hb:BlkOK (blockG (stmtsF n) b l):=fun lp v t x y hv ok hh=>by
     unfold blockG at hh
     split at hh
     ·cases hh
     ·split at hh
      ·cases hh
      ·rename_i t2 h2
       exact (want_shr h2 (by omega) ok).trans (ih _ _ hv (want_shr h2 (by omega) ok).1 hh)
    obtain ⟨s1,hv',_⟩:=stmtF_shr hb hv ok h1
    split at h
    ·cases h
    ·rename_i ss' t2 h2
     cases h
     exact s1.trans (ih _ _ hv' s1.1 h2)
theorem blockG_ok (n b l:Nat):BlkOK (blockG (stmtsF n) b l):=fun lp v t x y hv ok hh=>by
 unfold blockG at hh
 split at hh
 ·cases hh
 ·split at hh
  ·cases hh
  ·rename_i t2 h2
   exact (want_shr h2 (by omega) ok).trans (stmtsF_shr _ _ _ hv (want_shr h2 (by omega) ok).1 hh)
end Go.Lang
end
section
namespace Go.Ab
structure Gr (e z:Nat) (h0 h:AH) (s:Value) (l:List Value):Prop where
 kp:Kp h0.size h0 h
 hld:Hld e z h h0.size s l
 lt:∀ k,blkOf s=some k→k < h.size
theorem Gr.nil {e z:Nat} {h:AH}:Gr e z h h (.slice none 0 0) []:=⟨Kp.refl _ _,.nil,fun k hk=>by cases hk⟩
theorem Gr.append1 {e z bytes:Nat} {zero v:Value} {h0 h:AH} {s:Value} {l:List Value} {c:Array Value} (g:Gr e z h0 h s l) (hc:v.cells=c) (hl:∀ v ∈ l,v.cells.size=z)
  (hv:c.size=z) (hone:∀ x ∈ c.toList,x.oneCell' = true) (hz:0 < z) (hb:0 < bytes) (hb':bytes < 1073741824) (hzero:zero.cells.size=z) (hs:(l.length + 1) * bytes < 1099511627776) :
  ∃ s' h',apT e z bytes (some zero) (h.push (.cells c e (0,0)) none) s (.slice (some ⟨h.size,0,none⟩) 1 1)=some (s',h')∧Gr e z h0 h' s' (l++[v]):=by
 obtain ⟨s',h',a1,a2,a3,a4,a5⟩:=g.hld.append1 hc g.lt g.kp.size hl hv hone hz hb hb' hzero hs
 have hk:=g.hld.key
 have hsz:=g.kp.size
 refine ⟨s',h',a1,⟨g.kp.trans ⟨a3,fun k hk2=>a4 k (by omega) fun e=>?_⟩,a2,fun k hk2=>?_⟩⟩
 ·have:=hk k e
  omega
 ·rcases a5 with e | ⟨j,e,e1,e2⟩
  ·rw [e] at hk2
   have:=g.lt k hk2
   omega
  ·rw [e] at hk2
   injection hk2 with hk2
   omega
theorem Ex.gr {P:Program} {f:FuncId} {args:Array Value} {h:AH} {e z:Nat} {l:List Value} (hz:0 < z) (hl:∀ v ∈ l,v.cells.size=z) (hb:∀ v ∈ flatC l,Below h.size v)
  (hh:HC P f args h fun r h₁=>∃ s,r=.ret s∧Gr e z h h₁ s l):Ex P f args h (slV l) h :=
 Ex.own hz hl hb (hh.mono fun r h₁ ⟨s,e1,g⟩=>⟨s,e1,g.hld,g.kp⟩)
end Go.Ab
end
section
namespace Go.Ab
inductive Pt (h:AH):Value→Array Value→Prop
 | fp (c:Array Value):Pt h (FPv c) c
 | ptr {k o n:Nat} {c:Array Value} {e:TypeId} {fz:Nat × Nat} {s:Option Nat} (hk:k < h.size) (hg:h.get k=some (.cells c e fz,s)) (hc:o + n ≤ c.size):Pt h (.pointer (some ⟨k,o,none⟩)) (c.extract o (o + n))
theorem Pt.ld1 {h:AH} {p:Value} {c:Array Value} (x:Pt h p c) (hc:0 < c.size):Ab.ld1 h p=c[0]?:=by
 cases x with
 | fp c=>rfl
 | ptr hk hg hc' =>
  rw [ld1_ptr,hg,rowC_cells,Option.bind_some,Array.getElem?_extract]
  simp at hc
  rw [if_pos (by omega),Nat.add_zero]
theorem Pt.ldN {h:AH} {p:Value} {c:Array Value} {n:Nat} (x:Pt h p c) (hc:c.size=n):Ab.ldN n h p=some (.agg c):=by
 cases x with
 | fp c =>
  rw [ldN_fp,if_pos (by omega)]
  congr 2
  rw [← hc];simp
 | ptr hk hg hc' =>
  rw [ldN_ptr,hg,rowC_cells,Option.bind_some]
  simp at hc
  rw [if_pos (by omega)]
  congr 3
  omega
structure Rd (h:AH) (z:Nat) (v:Value) (l:List Value):Prop where
 len:lenL v=some (.int .i64 l.length)
 el:∀ (i:Nat) (x:Value),l[i]?=some x→∃ p,ia z v (.int .i64 i)=some p∧Pt h p x.cells∧x.cells.size=z
theorem Rd.of_hld {e lo:Nat} {h:AH} {z:Nat} {v:Value} {l:List Value} (o:Hld e z h lo v l) (hz:∀ v ∈ l,v.cells.size=z) (hb:∀ k,blkOf v=some k→k < h.size):Rd h z v l:=by
 refine ⟨o.len,fun i x hx=>?_⟩
 have hxz:=hz x (List.mem_of_getElem? hx)
 have hi:=(List.getElem?_eq_some_iff.1 hx).1
 cases o with
 | nil=>cases hx
 | row hk hg hc hp =>
  rename_i k c
  have hsz:c.size=l.length * z:=by rw [hc];simp [flatC_length hz]
  have hle:i * z + z ≤ l.length * z:=by rw [← Nat.succ_mul];exact Nat.mul_le_mul_right _ hi
  refine ⟨.pointer (some ⟨k,i * z,none⟩),?_,?_,hxz⟩
  ·rw [ia_sl,if_pos ⟨by omega,by omega⟩]
   simp
  ·have e:x.cells=c.extract (i * z) (i * z + z):=by
    apply Array.ext
    ·simp;omega
    ·intro j h1 h2
     rw [Array.getElem_extract]
     have:=flatC_at hz j hx (by omega)
     apply Option.some.inj
     rw [← Array.getElem?_eq_getElem,← this,← Array.getElem?_eq_getElem,hc]
     simp
   rw [e]
   exact .ptr (hb _ rfl) hg (by omega)
theorem Pt.mono {h h':AH} {p:Value} {c:Array Value} (x:Pt h p c) (K:Kp h.size h h'):Pt h' p c:=by
 cases x with
 | fp c=>exact .fp c
 | ptr hk hg hc=>exact .ptr (Nat.lt_of_lt_of_le hk K.size) ((K.get _ hk).trans hg) hc
theorem Rd.mono {h h':AH} {z:Nat} {v:Value} {l:List Value} (x:Rd h z v l) (K:Kp h.size h h'):Rd h' z v l :=
 ⟨x.len,fun i y hy=>by
  obtain ⟨p,h1,h2,h3⟩:=x.el i y hy
  exact ⟨p,h1,h2.mono K,h3⟩⟩
theorem Gr.rd {e z:Nat} {h0 h:AH} {s:Value} {l:List Value} (g:Gr e z h0 h s l) (hz:∀ v ∈ l,v.cells.size=z):Rd h z s l:=Rd.of_hld g.hld hz g.lt
end Go.Ab
end
section
namespace Go.Ab
theorem bounds_high {len cap k:Nat} (hk:k ≤ cap):bounds? len cap none (some (.int .i64 (k:Int)))=some (0,k):=by
 unfold bounds? bound?
 have:(0:Int) ≤ (k:Int)∧(k:Int) ≤ cap:=by omega
 simp [this]
theorem bounds_low {len cap k:Nat} (hk:k ≤ len):bounds? len cap (some (.int .i64 (k:Int))) none=some (k,len):=by
 unfold bounds? bound?
 have:(0:Int) ≤ (k:Int)∧(k:Int) ≤ len:=by omega
 simp [this]
theorem flatC_part {z i n:Nat} {l:List Value} (hz:∀ v ∈ l,v.cells.size=z) (hi:i + n ≤ l.length):(flatC l).toArray.extract (i * z) (i * z + n * z)=(flatC ((l.drop i).take n)).toArray:=by
 have e1:flatC l=flatC (l.take i)++(flatC ((l.drop i).take n)++flatC ((l.drop i).drop n)):=by
  unfold flatC
  rw [← List.flatMap_append,List.take_append_drop,← List.flatMap_append,List.take_append_drop]
 have h1:(flatC (l.take i)).length=i * z:=by
  rw [flatC_length fun v hv=>hz v (List.mem_of_mem_take hv),List.length_take,Nat.min_eq_left (by omega)]
 have h2:(flatC ((l.drop i).take n)).length=n * z:=by
  rw [flatC_length fun v hv=>hz v (List.mem_of_mem_drop (List.mem_of_mem_take hv)),List.length_take,List.length_drop,Nat.min_eq_left (by omega)]
 rw [e1,List.extract_toArray]
 congr 1
 rw [List.extract_eq_take_drop,← h1,List.drop_left,Nat.add_sub_cancel_left,← h2,List.take_left]
theorem Hld.take {P:Program} {e lo z t el k:Nat} {d:TypeInfo} {h:AH} {v:Value} {l:List Value} (o:Hld e z h lo v l) (hu:P.underlying t=some (.slice el)) (hd:P.info? el=some d) (hds:d.size=z)
  (hz:∀ v ∈ l,v.cells.size=z) (hk:k ≤ l.length):∃ v',sliceV P h t v none (some (.int .i64 (k:Int)))=some v'∧Src h z v' (l.take k):=by
 cases o with
 | nil =>
  obtain rfl:k=0:=by simpa using hk
  refine ⟨.slice none 0 0,?_,Src.nil (n:=0)⟩
  show opSlice P h t (.slice none 0 0) none (some (.int .i64 ((0:Nat):Int)))=_
  unfold opSlice
  rw [hu]
  simp only [hd,bounds_high (Nat.le_refl 0)]
 | row hk' hg hc hp =>
  rename_i b c
  refine ⟨.slice (some (if l.length=0 then ⟨b,0,none⟩ else ⟨b,0 * z,none⟩)) k l.length,?_,?_⟩
  ·show opSlice P h t (.slice (some ⟨b,0,none⟩) l.length l.length) none (some (.int .i64 (k:Int)))=_
   unfold opSlice
   rw [hu]
   simp only [hd,bounds_high hk,hg,add_off]
   simp [hds]
  ·rw [if_neg (by omega),Nat.zero_mul]
   have hlen:(l.take k).length=k:=by rw [List.length_take,Nat.min_eq_left hk]
   have:=Src.row (z:=z) (m:=l.take k) (cap:=l.length) (off:=0) hg (fun v hv=>hz v (List.mem_of_mem_take hv)) (by rw [hc,hlen];simp [flatC_length hz];exact Nat.mul_le_mul_right _ hk) (by
    have q:=flatC_part (i:=0) (n:=k) hz (by omega)
    rw [Nat.zero_mul,List.drop_zero] at q
    rw [hlen,hc,q])
   rw [hlen] at this
   exact this
theorem Hld.drop {P:Program} {e lo z t el k:Nat} {d:TypeInfo} {h:AH} {v:Value} {l:List Value} (o:Hld e z h lo v l) (hu:P.underlying t=some (.slice el)) (hd:P.info? el=some d) (hds:d.size=z)
  (hz:∀ v ∈ l,v.cells.size=z) (hk:k ≤ l.length):∃ v',sliceV P h t v (some (.int .i64 (k:Int))) none=some v'∧Src h z v' (l.drop k):=by
 cases o with
 | nil =>
  obtain rfl:k=0:=by simpa using hk
  refine ⟨.slice none 0 0,?_,Src.nil (n:=0)⟩
  show opSlice P h t (.slice none 0 0) (some (.int .i64 ((0:Nat):Int))) none=_
  unfold opSlice
  rw [hu]
  simp only [hd,bounds_low (Nat.le_refl 0)]
 | row hk' hg hc hp =>
  rename_i b c
  have hlen:(l.drop k).length=l.length - k:=by rw [List.length_drop]
  by_cases hkl:l.length=k
  ·have hnil:l.drop k=[]:=List.drop_of_length_le (by omega)
   refine ⟨.slice (some ⟨b,0,none⟩) 0 0,?_,?_⟩
   ·show opSlice P h t (.slice (some ⟨b,0,none⟩) l.length l.length) (some (.int .i64 (k:Int))) none=_
    unfold opSlice
    rw [hu]
    simp only [hd,bounds_low hk,hg,add_off]
    simp [hds,hkl]
   ·rw [hnil]
    exact Src.row (m:=[]) hg (by simp) (by simp) (by simp [flatC])
  ·refine ⟨.slice (some ⟨b,k * z,none⟩) (l.length - k) (l.length - k),?_,?_⟩
   ·show opSlice P h t (.slice (some ⟨b,0,none⟩) l.length l.length) (some (.int .i64 (k:Int))) none=_
    unfold opSlice
    rw [hu]
    simp only [hd,bounds_low hk,hg,add_off]
    simp [hds,hkl]
   ·have hm:k * z + (l.length - k) * z=l.length * z:=by rw [← Nat.add_mul];congr 1;omega
    have:=Src.row (z:=z) (m:=l.drop k) (cap:=l.length - k) (off:=k * z) hg (fun v hv=>hz v (List.mem_of_mem_drop hv)) (by rw [hc,hlen,hm];simp [flatC_length hz]) (by
     have q:=flatC_part (i:=k) (n:=l.length - k) hz (by omega)
     rw [List.take_of_length_le (by rw [hlen];exact Nat.le_refl _)] at q
     rw [hlen,hc,q])
    rw [hlen] at this
    exact this
theorem Gr.append {e z bytes:Nat} {zero:Value} {h0 h:AH} {s x:Value} {l m:List Value} (g:Gr e z h0 h s l) (hx:Src h z x m) (hl:∀ v ∈ l,v.cells.size=z) (hm:∀ v ∈ m,v.cells.size=z) (hone:∀ v ∈ flatC m,v.oneCell' = true)
  (hz:0 < z) (hb:0 < bytes) (hb':bytes < 1073741824) (hzero:zero.cells.size=z) (hs:(l.length + m.length) * bytes < 1099511627776) :
  ∃ s' h',apT e z bytes (some zero) h s x=some (s',h')∧Gr e z h0 h' s' (l++m)∧(∀ k,k < h.size→blkOf s ≠ some k→h'.get k=h.get k)∧h.size ≤ h'.size:=by
 obtain ⟨s',h',a1,a2,a3,a4,a5⟩:=g.hld.append hx g.kp.size hl hm hone hz hb hb' hzero hs
 have hk:=g.hld.key
 have hsz:=g.kp.size
 refine ⟨s',h',a1,⟨g.kp.trans ⟨a3,fun k hk2=>a4 k (by omega) fun e=>?_⟩,a2,fun k hk2=>?_⟩,a4,a3⟩
 ·have:=hk k e
  omega
 ·rcases a5 with e | ⟨j,e,e1,e2⟩
  ·rw [e] at hk2
   have:=g.lt k hk2
   omega
  ·rw [e] at hk2
   injection hk2 with hk2
   omega
end Go.Ab
end
section
namespace Go.Ab
inductive Own (e z:Nat) (h:AH):Value→List Value→Prop
 | nil:Own e z h (.slice none 0 0) []
 | row {k:Nat} {c:Array Value} {l x:List Value} (hg:h.get k=some (.cells c e (0,0),some z)) (hc:c=(flatC (l++x)).toArray) (hx:∀ v ∈ x,v.cells.size=z) (hp:0 < l.length + x.length) :
   Own e z h (.slice (some ⟨k,0,none⟩) l.length (l.length + x.length)) l
theorem Own.of_hld {e z lo:Nat} {h:AH} {s:Value} {l:List Value} (o:Hld e z h lo s l):Own e z h s l:=by
 cases o with
 | nil=>exact .nil
 | row hk hg hc hp=>exact .row (x:=[]) hg (by simpa using hc) (by simp) (by simpa using hp)
theorem Own.mono {e z:Nat} {h h':AH} {s:Value} {l:List Value} (o:Own e z h s l) (hg:∀ k,blkOf s=some k→h'.get k=h.get k):Own e z h' s l:=by
 cases o with
 | nil=>exact .nil
 | row h1 hc hx hp=>exact .row ((hg _ rfl).trans h1) hc hx hp
theorem Own.len {e z:Nat} {h:AH} {s:Value} {l:List Value} (o:Own e z h s l):lenL s=some (.int .i64 l.length):=by
 cases o <;> rfl
theorem Own.src {e z:Nat} {h:AH} {s:Value} {l:List Value} (o:Own e z h s l) (hz:∀ v ∈ l,v.cells.size=z):Src h z s l:=by
 cases o with
 | nil=>exact Src.nil (n:=0)
 | row h1 hc hx hp =>
  have hl:=flatC_length hz
  refine Src.row h1 hz ?_ ?_
  ·rw [hc];simp [flatC,← hl]
  ·rw [hc,Nat.zero_add,← hl];simp [flatC]
theorem setFrom_mid {a b c n:List Value} (hb:b.length=n.length):∀ {k:Nat},k=a.length→setFrom (a++(b++c)).toArray k n=(a++(n++c)).toArray:=by
 induction n generalizing a b with
 | nil =>
  intro k hk
  have:b=[]:=List.eq_nil_of_length_eq_zero hb
  subst this
  rfl
 | cons v n ih =>
  intro k hk
  cases b with
  | nil=>simp at hb
  | cons w b =>
   rw [setFrom_cons,List.setIfInBounds_toArray]
   have e:(a++(w::b++c)).set k v=(a++[v])++(b++c):=by
    subst hk
    rw [List.set_append_right _ _ (Nat.le_refl _),Nat.sub_self]
    simp
   rw [e,ih (a:=a++[v]) (b:=b) (by simpa using hb) (by simp [hk])]
   simp
theorem Own.append {e z bytes:Nat} {zero:Value} {h:AH} {s x:Value} {l m:List Value} (o:Own e z h s l) (hx:Src h z x m) (hl:∀ v ∈ l,v.cells.size=z) (hm:∀ v ∈ m,v.cells.size=z) (hone:∀ v ∈ flatC m,v.oneCell' = true)
  (hz:0 < z) (hb:0 < bytes) (hb':bytes < 1073741824) (hzero:zero.cells.size=z) (hs:(l.length + m.length) * bytes < 1099511627776) :
  ∃ s' h',apT e z bytes (some zero) h s x=some (s',h')∧Own e z h' s' (l++m)∧h.size ≤ h'.size∧(∀ k,k < h.size→blkOf s ≠ some k→h'.get k=h.get k)∧(blkOf s' = blkOf s ∨ ∃ k,blkOf s' = some k∧h.size ≤ k∧k < h'.size):=by
 have hlm:=flatC_length hm
 have hll:=flatC_length hl
 obtain ⟨h1,h2⟩:=hx
 have hfm:(flatC m).toArray.size=m.length * z:=by simp [hlm]
 have hcat:∀ a b:List Value,flatC (a++b)=flatC a++flatC b:=fun a b=>by simp [flatC]
 cases o with
 | nil =>
  obtain ⟨s',h',a1,a2,a3,a4,a5⟩:=(Hld.nil (e:=e) (z:=z) (h:=h) (lo:=0)).append ⟨h1,h2⟩ (Nat.zero_le _) hl hm hone hz hb hb' hzero hs
  exact ⟨s',h',a1,.of_hld a2,a3,a4,a5⟩
 | row hg hc hxz hp =>
  rename_i k c r
  have hrl:=flatC_length hxz
  have hcs:c.size=(l.length + r.length) * z:=by rw [hc,hcat];simp [hll,hrl,Nat.add_mul]
  unfold apT
  simp only [h1,h2,hfm,if_true]
  by_cases hroom:m.length ≤ r.length
  ·rw [if_pos (by omega)]
   by_cases h0:m.length * z=0
   ·have hm0:m=[]:=by
     rcases Nat.mul_eq_zero.1 h0 with e1 | e1
     ·exact List.eq_nil_of_length_eq_zero e1
     ·omega
    subst hm0
    refine ⟨_,h,by rw [if_pos h0];rfl,?_,Nat.le_refl _,fun _ _ _=>rfl,.inl rfl⟩
    have:=Own.row (x:=r) hg hc hxz hp
    rw [List.append_nil];exact this
   ·rw [if_neg h0]
    simp only [Option.isSome_none,Bool.false_eq_true,if_false]
    have hset:opSetCells h (Addr.add ⟨k,0,none⟩ (l.length * z)) (flatC m).toArray=some (h.put k (some (.cells (flatC (l++m++r.drop m.length)).toArray e (0,0),some z))):=by
     rw [add_off]
     unfold opSetCells
     simp only [Option.isSome_none,Bool.false_eq_true,if_false,hg]
     have hle:0 + l.length * z + (flatC m).toArray.size ≤ c.size:=by
      rw [hfm,hcs,Nat.zero_add,← Nat.add_mul];exact Nat.mul_le_mul_right _ (by omega)
     rw [if_pos ⟨trivial,hle,by simpa using hone⟩]
     congr 5
     have e1:flatC (l++r)=flatC l++(flatC (r.take m.length)++flatC (r.drop m.length)):=by
      rw [hcat,← hcat (r.take _),List.take_append_drop]
     rw [hc,e1]
     show setFrom _ _ (flatC m)=_
     rw [setFrom_mid (n:=flatC m) ?_ (by rw [Nat.zero_add,hll])]
     ·rw [hcat,hcat,List.append_assoc]
     ·rw [flatC_length (fun v hv=>hxz v (List.mem_of_mem_take hv)),hlm,List.length_take,Nat.min_eq_left hroom]
    rw [hset]
    refine ⟨_,_,rfl,?_,by simp,fun j hj hne=>get_put_ne (fun e=>hne (by rw [e];rfl)),.inl rfl⟩
    have:=Own.row (e:=e) (z:=z) (h:=h.put k (some (.cells (flatC (l++m++r.drop m.length)).toArray e (0,0),some z))) (k:=k) (l:=l++m) (x:=r.drop m.length) (get_put_eq rfl) rfl (fun v hv=>hxz v (List.mem_of_mem_drop hv)) (by simp;omega)
    have e2:(l++m).length + (r.drop m.length).length=l.length + r.length:=by simp;omega
    rw [e2] at this
    simpa using this
  ·rw [if_neg (by omega),if_pos ⟨hz,hb,by simpa using hb',by simpa using hs,by simpa using hzero⟩]
   have hsrc:=(Own.src (Own.row (x:=r) hg hc hxz hp) hl).2
   have hfl:(flatC l).toArray.size=l.length * z:=by simp [hll]
   simp only [hsrc,hfl,if_true,hg]
   rw [if_pos ⟨trivial,trivial,trivial,trivial,trivial,hp,by simpa using hone⟩]
   refine ⟨_,_,rfl,?_,by simp,fun j hj hne=>?_,.inr ⟨h.size,rfl,Nat.le_refl _,by simp⟩⟩
   ·have:=Own.row (e:=e) (z:=z) (h:=(h.put k none).push (.cells ((flatC l).toArray++(flatC m).toArray) e (0,0)) (some z)) (k:=h.size) (l:=l++m) (x:=[]) (get_push_eq rfl) (by rw [List.append_nil,hcat];simp) (by simp) (by simp;omega)
    simpa using this
   ·rw [get_push_ne (by simp;omega),get_put_ne (fun e=>hne (by rw [e];rfl))]
theorem Own.rd {e:Nat} {h:AH} {z:Nat} {v:Value} {l:List Value} (o:Own e z h v l) (hz:∀ v ∈ l,v.cells.size=z) (hb:∀ k,blkOf v=some k→k < h.size):Rd h z v l:=by
 refine ⟨o.len,fun i x hx=>?_⟩
 have hxz:=hz x (List.mem_of_getElem? hx)
 have hi:=(List.getElem?_eq_some_iff.1 hx).1
 cases o with
 | nil=>cases hx
 | row hg hc hrz hp =>
  rename_i k c r
  have hall:∀ v ∈ l++r,v.cells.size=z:=fun v hv=>(List.mem_append.1 hv).elim (hz v) (hrz v)
  have hsz:c.size=(l.length + r.length) * z:=by rw [hc];simp [flatC_length hall]
  have hle:i * z + z ≤ (l.length + r.length) * z:=by rw [← Nat.succ_mul];exact Nat.mul_le_mul_right _ (by omega)
  refine ⟨.pointer (some ⟨k,i * z,none⟩),?_,?_,hxz⟩
  ·rw [ia_sl,if_pos ⟨by omega,by omega⟩]
   simp
  ·have e:x.cells=c.extract (i * z) (i * z + z):=by
    apply Array.ext
    ·simp;omega
    ·intro j h1 h2
     rw [Array.getElem_extract]
     have:=flatC_at hall j (i:=i) (x:=x) (by rw [List.getElem?_append_left hi];exact hx) (by omega)
     apply Option.some.inj
     rw [← Array.getElem?_eq_getElem,← this,← Array.getElem?_eq_getElem,hc]
     simp
   rw [e]
   exact .ptr (hb _ rfl) hg (by omega)
theorem Own.cut {P:Program} {e z t el k:Nat} {d:TypeInfo} {h:AH} {v:Value} {l:List Value} (o:Own e z h v l) (hu:P.underlying t=some (.slice el)) (hd:P.info? el=some d) (hds:d.size=z)
  (hz:∀ v ∈ l,v.cells.size=z) (hk:k ≤ l.length):∃ v',sliceV P h t v none (some (.int .i64 (k:Int)))=some v'∧Own e z h v' (l.take k)∧blkOf v' = blkOf v:=by
 cases o with
 | nil =>
  obtain rfl:k=0:=by simpa using hk
  refine ⟨.slice none 0 0,?_,.nil,rfl⟩
  show opSlice P h t (.slice none 0 0) none (some (.int .i64 ((0:Nat):Int)))=_
  unfold opSlice
  rw [hu]
  simp only [hd,bounds_high (Nat.le_refl 0)]
 | row hg hc hx hp =>
  rename_i b c r
  refine ⟨.slice (some ⟨b,0,none⟩) k (l.length + r.length),?_,?_,rfl⟩
  ·show opSlice P h t (.slice (some ⟨b,0,none⟩) l.length (l.length + r.length)) none (some (.int .i64 (k:Int)))=_
   unfold opSlice
   rw [hu]
   simp only [hd,bounds_high (len:=l.length) (show k ≤ l.length + r.length by omega),hg,add_off]
   simp [hds]
  ·have:=Own.row (e:=e) (z:=z) (h:=h) (k:=b) (l:=l.take k) (x:=l.drop k++r) hg (by rw [← List.append_assoc,List.take_append_drop];exact hc) (fun v hv=>(List.mem_append.1 hv).elim (fun q=>hz v (List.mem_of_mem_drop q)) (hx v)) (by simp;omega)
   have e1:(l.take k).length=k:=by simp;omega
   have e2:(l.take k).length + (l.drop k++r).length=l.length + r.length:=by simp;omega
   rw [e2,e1] at this
   exact this
theorem Own.append1 {e z bytes:Nat} {zero v:Value} {h:AH} {s:Value} {l:List Value} {c:Array Value} (o:Own e z h s l) (hc:v.cells=c) (hs2:∀ k,blkOf s=some k→k < h.size) (hl:∀ v ∈ l,v.cells.size=z)
  (hv:c.size=z) (hone:∀ x ∈ c.toList,x.oneCell' = true) (hz:0 < z) (hb:0 < bytes) (hb':bytes < 1073741824) (hzero:zero.cells.size=z) (hs:(l.length + 1) * bytes < 1099511627776) :
  ∃ s' h',apT e z bytes (some zero) (h.push (.cells c e (0,0)) none) s (.slice (some ⟨h.size,0,none⟩) 1 1)=some (s',h')∧Own e z h' s' (l++[v])∧h.size ≤ h'.size∧(∀ k,k < h.size→blkOf s ≠ some k→h'.get k=h.get k) ∧
   (blkOf s' = blkOf s ∨ ∃ k,blkOf s' = some k∧h.size ≤ k∧k < h'.size):=by
 subst hc
 have hfl:flatC [v]=v.cells.toList:=by simp [flatC]
 have hx:Src (h.push (.cells v.cells e (0,0)) none) z (.slice (some ⟨h.size,0,none⟩) 1 1) [v]:=by
  refine Src.row (m:=[v]) (get_push_eq rfl) (fun x hx=>by rw [List.mem_singleton.1 hx];exact hv) (by simp [hv]) ?_
  rw [hfl];simp [hv]
 have o':Own e z (h.push (.cells v.cells e (0,0)) none) s l:=o.mono fun k hk=>get_push_ne (by have:=hs2 k hk;omega)
 obtain ⟨s',h',a1,a2,a3,a4,a5⟩:=o'.append hx hl (fun x hx=>by rw [List.mem_singleton.1 hx];exact hv) (fun x hx=>hone x (by rw [hfl] at hx;exact hx)) hz hb hb' hzero hs
 simp only [AH.size_push] at a3 a4 a5
 refine ⟨s',h',a1,a2,by omega,fun k hk hne=>(a4 k (by omega) hne).trans (get_push_ne (by omega)),?_⟩
 rcases a5 with e | ⟨k,e,h1,h2⟩
 ·exact .inl e
 ·exact .inr ⟨k,e,by omega,h2⟩
end Go.Ab
end
section
namespace Go.Ab
def GhU (P:Program) (h h':AH) (s s':Value):Prop:=∀ E w,RW P E h w→∃ E',RW P E' h' w∧Ext E w E' w∧∀ u,RV E s u→RV E' s' u
mutual
inductive Turn (s s':Value):Value→Value→Prop
 | here:Turn s s' s s'
 | same (v:Value):Turn s s' v v
 | agg {l l':List Value} (h:TurnL s s' l l'):Turn s s' (.agg l.toArray) (.agg l'.toArray)
 | tuple {l l':List Value} (h:TurnL s s' l l'):Turn s s' (.tuple l.toArray) (.tuple l'.toArray)
inductive TurnL (s s':Value):List Value→List Value→Prop
 | nil:TurnL s s' [] []
 | cons {v v':Value} {l l':List Value} (h:Turn s s' v v') (t:TurnL s s' l l'):TurnL s s' (v::l) (v'::l')
end
theorem RA.cons_inv {E:Ren} {v:Value} {l:List Value} {c:Array Value} (h:RA E (v::l).toArray c):∃ u m,c=(u::m).toArray∧RV E v u∧RA E l.toArray m.toArray:=by
 obtain ⟨h1,h2⟩:=h
 obtain ⟨cl⟩:=c
 cases cl with
 | nil=>simp at h1
 | cons u m =>
  refine ⟨u,m,rfl,h2 0 v u (by simp) (by simp),by simpa using h1,fun i a b ha hb=>h2 (i + 1) a b ?_ ?_⟩
  ·simpa using ha
  ·simpa using hb
theorem RA.cons {E:Ren} {v u:Value} {l m:List Value} (h:RV E v u) (t:RA E l.toArray m.toArray):RA E (v::l).toArray (u::m).toArray:=by
 refine ⟨by simpa using t.1,fun i a b ha hb=>?_⟩
 cases i with
 | zero=>simp at ha hb;subst ha hb;exact h
 | succ i=>exact t.2 i a b (by simpa using ha) (by simpa using hb)
theorem TurnL.ok {E E':Ren} {s s':Value} (le:E.Le E') (hs:∀ u,RV E s u→RV E' s' u):∀ {l l':List Value},TurnL s s' l l'→∀ c,RA E l.toArray c→RA E' l'.toArray c:=by
 intro l l' t
 refine TurnL.rec (motive_1:=fun v v' _=>∀ u,RV E v u→RV E' v' u) (motive_2:=fun l l' _=>∀ c,RA E l.toArray c→RA E' l'.toArray c) ?_ ?_ ?_ ?_ ?_ ?_ t
 ·exact hs
 ·exact fun v u h=>h.mono le
 ·intro l l' h ih u hu
  cases hu with
  | agg hn hh=>obtain ⟨a,b⟩:=ih _ ⟨hn,hh⟩;exact .agg a b
 ·intro l l' h ih u hu
  cases hu with
  | tuple hn hh=>obtain ⟨a,b⟩:=ih _ ⟨hn,hh⟩;exact .tuple a b
 ·intro c hc
  obtain ⟨h1,h2⟩:=hc
  refine ⟨h1,fun i v v' hv=>?_⟩
  simp at hv
 ·intro v v' l l' h t ih it c hc
  obtain ⟨u,m,rfl,h1,h2⟩:=hc.cons_inv
  exact RA.cons (ih u h1) (it _ h2)
theorem Turn.ok {E E':Ren} {s s':Value} (le:E.Le E') (hs:∀ u,RV E s u→RV E' s' u):∀ {v v':Value},Turn s s' v v'→∀ u,RV E v u→RV E' v' u:=by
 intro v v' t
 refine Turn.rec (motive_1:=fun v v' _=>∀ u,RV E v u→RV E' v' u) (motive_2:=fun l l' _=>∀ c,RA E l.toArray c→RA E' l'.toArray c) ?_ ?_ ?_ ?_ ?_ ?_ t
 ·exact hs
 ·exact fun v u h=>h.mono le
 ·intro l l' h ih u hu
  cases hu with
  | agg hn hh=>obtain ⟨a,b⟩:=ih _ ⟨hn,hh⟩;exact .agg a b
 ·intro l l' h ih u hu
  cases hu with
  | tuple hn hh=>obtain ⟨a,b⟩:=ih _ ⟨hn,hh⟩;exact .tuple a b
 ·intro c hc
  obtain ⟨h1,h2⟩:=hc
  refine ⟨h1,fun i v v' hv=>?_⟩
  simp at hv
 ·intro v v' l l' h t ih it c hc
  obtain ⟨u,m,rfl,h1,h2⟩:=hc.cons_inv
  exact RA.cons (ih u h1) (it _ h2)
theorem Gh.turn {P:Program} {h h':AH} {s s' v v':Value} (g:GhU P h h' s s') (t:Turn s s' v v'):Gh P h v h' v':=fun E w u r rv=>by
 obtain ⟨E',r',x,hs⟩:=g E w r
 exact ⟨E',r',x,t.ok x.le hs u rv⟩
theorem GhU.slice {P:Program} {h:AH} {k off len cap z:Nat} {c:Array Value} {e:TypeId} {s:Option Nat} {l:List Value} (hk:h.get k=some (.cells c e (0,0),s)) (hz:0 < z) (hl:∀ v ∈ l,v.cells.size=z)
  (hlen:l.length=len) (hc:len ≤ cap) (hf:∀ (i:Nat) v,(flatC l)[i]?=some v→c[off + i]?=some v) (hn:off + len * z ≤ c.size) :
  GhU P h (h.put k (some (.cells c e (0,1),s))) (.slice (some ⟨k,off,none⟩) len cap) (VSl l):=by
 intro E w r
 obtain ⟨b,o',hat,_⟩:=r.live k _ s hk
 obtain ⟨c',h1,h2,h3,h4⟩:=rw_ice r hk hat
 refine ⟨_,h3,h4,fun u rv=>?_⟩
 have go:∀ cap',cap ≤ cap'→RV (E.still b c') (VSl l) (.slice (some ⟨b,off,none⟩) len cap'):=by
  intro cap' hcap
  have:=RV.vs (E:=E.still b c') (l:=l) (b':=b) (off:=off) (cap:=cap') (s:=z) (c:=c') (by simp [Ren.still]) hz hl (by rw [hlen,h2];exact hn) (by omega) fun i v v' hv hv'=>h1 _ v v' (hf i v hv) hv'
  rw [hlen] at this
  exact this
 cases rv with
 | slice hat' hs=>rw [hat] at hat';cases hat';exact go _ (Nat.le_refl _)
 | softSlice hat' hs ho hcc hle=>rw [hat] at hat';cases hat';exact go _ hle
 | stub hs =>
  have:l=[]:=List.eq_nil_of_length_eq_zero hlen
  subst this
  exact .vs0
theorem Own.turn {P:Program} {e z:Nat} {h:AH} {s:Value} {l:List Value} (o:Own e z h s l) (hz:0 < z) (hl:∀ v ∈ l,v.cells.size=z) :
  (s=.slice none 0 0∧l=[]) ∨ ∃ h₂,GhU P h h₂ s (VSl l)∧(∀ k,blkOf s ≠ some k→h₂.get k=h.get k)∧h₂.size=h.size:=by
 cases o with
 | nil=>exact .inl ⟨rfl,rfl⟩
 | row hg hc hx hp =>
  rename_i k c x
  have hall:∀ v ∈ l++x,v.cells.size=z:=fun v hv=>(List.mem_append.1 hv).elim (hl v) (hx v)
  refine .inr ⟨_,GhU.slice (l:=l) hg hz hl rfl (by omega) (fun i v hv=>?_) ?_,fun j hj=>get_put_ne (fun e=>hj (by rw [e];rfl)),rfl⟩
  ·rw [hc,Nat.zero_add]
   have hlt:=(List.getElem?_eq_some_iff.1 hv).1
   simp only [List.getElem?_toArray]
   rw [show flatC (l++x)=flatC l++flatC x by simp [flatC],List.getElem?_append_left hlt]
   exact hv
  ·rw [hc];simp [flatC_length hall,Nat.add_mul]
theorem GhU.refl {P:Program} {h:AH} {s:Value}:GhU P h h s s:=fun E w r=>⟨E,r,.refl E w,fun u h=>h⟩
theorem Hld.turn {P:Program} {e z lo:Nat} {h:AH} {s:Value} {l:List Value} (o:Hld e z h lo s l) (hz:0 < z) (hl:∀ v ∈ l,v.cells.size=z) :
  ∃ h₂,GhU P h h₂ s (slV l)∧(∀ k,blkOf s ≠ some k→h₂.get k=h.get k)∧h₂.size=h.size:=by
 have:=(Own.of_hld o).turn (P:=P) hz hl
 cases o with
 | nil=>exact ⟨h,.refl,fun _ _=>rfl,rfl⟩
 | row hk hg hc hp =>
  rcases this with ⟨h1,_⟩ | h2
  ·cases h1
  ·rw [slV_of (fun e=>by rw [e] at hp;exact absurd hp (by simp))];exact h2
theorem RW.redo {P:Program} {E:Ren} {h:AH} {w:World} (r:RW P E h w) {k:Nat} {o o':Obj} {s:Option Nat} (hk:h.get k=some (o,s)) (hi:iced o' = iced o) (ho:∀ n ow,E.at_ k=some n→w.heap[n]?=some ow→RO E (E.soft k) o' ow) :
  RW P E (h.put k (some (o',s))) w:=by
 refine ⟨r.glob,fun k n hk=>by simpa using r.dom k n hk,r.sdom,fun j x t hj=>?_,fun i j n hi hj gi gj=>?_,r.frz,fun j x t n hj hn hf=>?_,r.sep⟩
 ·rw [AH.get_put] at hj
  split at hj
  ·rename_i e;subst e;cases hj
   obtain ⟨n,o1,p1,p2,p3,p4⟩:=r.live j o s hk
   exact ⟨n,o1,p1,p2,ho n o1 p1 p2,p4⟩
  ·exact r.live j x t hj
 ·refine r.inj i j n hi hj ?_ ?_
  ·rw [AH.get_put] at gi
   split at gi
   ·rename_i e;rw [e,hk];rfl
   ·exact gi
  ·rw [AH.get_put] at gj
   split at gj
   ·rename_i e;rw [e,hk];rfl
   ·exact gj
 ·rw [AH.get_put] at hj
  split at hj
  ·rename_i e;subst e;cases hj
   rw [hi];exact r.icy j o s n hk hn hf
  ·exact r.icy j x t n hj hn hf
theorem GhU.row {P:Program} {h h':AH} {s s':Value} {k:Nat} {c c':List Value} {e:TypeId} (g:GhU P h h' s s') (hk:h.get k=some (.cells c.toArray e (0,0),none)) (hk':h'.get k=h.get k) (t:TurnL s s' c c') :
  GhU P h (h'.put k (some (.cells c'.toArray e (0,0),none))) s s':=by
 intro E w r
 obtain ⟨E',r',x,hs⟩:=g E w r
 refine ⟨E',r'.redo (hk'.trans hk) rfl fun n ow hn how=>?_,x,hs⟩
 obtain ⟨m,o1,p1,p2,p3,p4⟩:=r.live k _ _ hk
 have:=x.le.at_ _ _ p1
 rw [hn] at this;cases this
 rw [how] at p2;cases p2
 have hsoft:=x.le.soft _ _ p1
 cases p3 with
 | hard hs1 hh=>exact .hard (hsoft.trans hs1) (t.ok x.le hs _ hh)
 | soft hs1 _ _ _ _ _=>rw [hs1] at p4;cases p4
theorem HC.ghOr {P:Program} {f:FuncId} {args:Array Value} {h:AH} {Q:Res→AH→Prop} (hh:HC P f args h fun r h₁=>(∃ v v' h₂,r=.ret v∧Gh P h₁ v h₂ v'∧Q (.ret v') h₂) ∨ Q r h₁):HC P f args h Q :=
 fun E w args' r ra=>(hh E w args' r ra).mono fun e w' ⟨E',res,h₁,q1,q2,q3,hq⟩=>by
  rcases hq with ⟨v,v',h₂,e1,g,hq⟩ | hq
  ·subst e1
   cases e with
   | returned u =>
    obtain ⟨E'',p1,p2,p3⟩:=g E' w' u q2 q1
    exact ⟨E'',.ret v',h₂,p3,p1,q3.trans p2,hq⟩
   | _=>cases q1
  ·exact ⟨E',res,h₁,q1,q2,q3,hq⟩
theorem setFrom_all {z:Array Value} {l:List Value} (h:l.length=z.size):setFrom z 0 l=l.toArray:=by
 have:=setFrom_mid (a:=[]) (b:=z.toList) (c:=[]) (n:=l) (by simpa using h.symm) (k:=0) rfl
 simpa using this
theorem bdF_one {n:Nat} {z:Array Value} {v:Value} (h1:v.cells.size=n) (h2:z.size=n):bdF z [(0,n,v)]=some v.cells:=by
 rw [bdF_cons h1 (by omega),bdF_nil,setFrom_all (by simp;omega)]
theorem bs_one {e n:Nat} {z:Array Value} {h:AH} {v:Value} (h1:v.cells.size=n) (h2:z.size=n):bs e z 1 h [(0,n,v)]=some (.slice (some ⟨h.size,0,none⟩) 1 1,h.push (.cells v.cells e (0,0)) none):=by
 rw [bs_eq,bdF_cons h1 (by omega),bdF_nil,Option.map_some,setFrom_all (by simp;omega)]
theorem Own.isSl {e z:Nat} {h:AH} {s:Value} {l:List Value} (o:Own e z h s l):∃ a n c,s=.slice a n c:=by
 cases o <;> exact ⟨_,_,_,rfl⟩
theorem Hld.isSl {e z lo:Nat} {h:AH} {s:Value} {l:List Value} (o:Hld e z h lo s l):∃ a n c,s=.slice a n c:=by
 cases o <;> exact ⟨_,_,_,rfl⟩
theorem ldN_full {n k:Nat} {h:AH} {c:Array Value} {e:TypeId} {fz:Nat × Nat} {s:Option Nat} (hg:h.get k=some (.cells c e fz,s)) (hc:c.size=n):ldN n h (.pointer (some ⟨k,0,none⟩))=some (.agg c):=by
 rw [ldN_ptr,hg,rowC_cells,Option.bind_some,if_pos (by omega)]
 congr 2
 rw [Nat.zero_add,← hc];simp
theorem stN_mid {n k off:Nat} {h:AH} {a b c:List Value} {v:Value} {e:TypeId} {s:Option Nat} (hg:h.get k=some (.cells (a++(b++c)).toArray e (0,0),s)) (ha:a.length=off) (hb:b.length=n) (hv:v.cells.size=n) (h1:∀ x ∈ v.cells.toList,x.oneCell' = true) :
  stN n h (.pointer (some ⟨k,off,none⟩)) v=some (h.put k (some (.cells (a++(v.cells.toList++c)).toArray e (0,0),s))):=by
 rw [stN_ptr,if_pos hv,hg,setC_cells (by simp;omega) (List.all_eq_true.2 h1),setFrom_mid (by simp;omega) ha.symm]
theorem stN_full {n k:Nat} {h:AH} {c:Array Value} {v:Value} {e:TypeId} {s:Option Nat} (hg:h.get k=some (.cells c e (0,0),s)) (hc:c.size=n) (hv:v.cells.size=n) (h1:∀ x ∈ v.cells.toList,x.oneCell' = true) :
  stN n h (.pointer (some ⟨k,0,none⟩)) v=some (h.put k (some (.cells v.cells e (0,0),s))):=by
 have:=stN_mid (a:=[]) (b:=c.toList) (c:=[]) (n:=n) (off:=0) (v:=v) (k:=k) (h:=h) (e:=e) (s:=s) (by simpa using hg) rfl (by simpa using hc) hv h1
 simpa using this
end Go.Ab
end
