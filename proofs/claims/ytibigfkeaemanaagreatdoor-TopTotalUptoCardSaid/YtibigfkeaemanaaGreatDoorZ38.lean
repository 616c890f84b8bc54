import Derived.KernelRfl
import Derived.Test.YtibigfkeaemanaaGreatDoorProg
import GoSem.ClaimGoes
import GoSem.ClaimOpen
import Derived.Test.YtibigfkeaemanaaGreatDoorZ14
import Derived.Test.YtibigfkeaemanaaGreatDoorZ17
import Derived.Test.YtibigfkeaemanaaGreatDoorZ21
import Derived.Test.YtibigfkeaemanaaGreatDoorZ25
import Derived.Test.YtibigfkeaemanaaGreatDoorZ34
import Derived.Test.YtibigfkeaemanaaGreatDoorZ36
import Derived.Test.YtibigfkeaemanaaGreatDoorZ37
set_option linter.unusedVariables false
set_option linter.unusedSimpArgs false
section
namespace Go.Proofs.YtibigfkeaemanaaGreatDoor.L
open Go.Ab Go.Lang Go.Proofs.YtibigfkeaemanaaGreatDoor.X
set_option maxRecDepth 100000
def RG {α:Type} (P:α→Prop):R α→Prop
 | .ok a=>P a
 | .error f=>f.1 ≠ 0
theorem RG.of_ok {α:Type} {P:α→Prop} {x:R α} (h:RG P x) {a:α} (e:x=.ok a):P a:=by subst e;exact h
theorem RG.of_err {α:Type} {P:α→Prop} {x:R α} (h:RG P x) {f:Nat × Nat} (e:x=.error f):f.1 ≠ 0:=by subst e;exact h
theorem RG.map {α β:Type} {P:α→Prop} {Q:β→Prop} {x:R α} {f:α→β} (h:RG P x) (hf:∀ a,P a→Q (f a)):RG Q (x.map f):=by
 cases x with
 | ok a=>exact hf a h
 | error e=>exact h
theorem want_rg {ts:List Tok} {c:Nat} {x:ByteArray} (hc:c ≠ 0) (ok:TokOK ts):RG (fun r=>Shr ts r) (Lang.want c x ts):=by
 cases h:Lang.want c x ts with
 | ok r=>exact want_shr h hc ok
 | error f =>
  unfold Lang.want at h
  split at h
  ·cases h
  ·cases h;show 161 ≠ 0;decide
theorem fresh_rg {ts:List Tok} (ok:TokOK ts):RG (fun p=>ts=p.1::p.2∧Shr ts p.2) (Lang.fresh ts):=by
 cases h:Lang.fresh ts with
 | ok p=>obtain ⟨t,r⟩:=p;have:=fresh_shr h ok;exact ⟨this.1,this.2.2.2⟩
 | error f =>
  cases ts with
  | nil=>exact absurd rfl ok.ne
  | cons t r =>
   unfold Lang.fresh at h
   simp only at h
   split at h
   ·cases h;show 161 ≠ 0;decide
   ·cases h
theorem unbound_rg {vs:List Var} {ts:List Tok} (ok:TokOK ts):RG (fun p=>Shr ts p.2) (unboundF vs ts):=by
 have hf:=fresh_rg ok
 unfold unboundF
 cases h:Lang.fresh ts with
 | error f=>exact hf.of_err h
 | ok p =>
  obtain ⟨t,r⟩:=p
  have:=hf.of_ok h
  show RG _ (if _ then _ else _)
  split
  ·show 162 ≠ 0;decide
  ·exact this.2
def RdG (n:Nat) (rd:ExprRd):Prop:=∀ ts,TokOK ts→ts.length ≤ n→RG (fun p=>okE p.1.1=true∧Shr ts p.2) (rd ts)
theorem ofK_rg {n:Nat} {rd:ExprRd} (hr:RdG n rd) (k:Nat) {ts:List Tok} (ok:TokOK ts) (hn:ts.length ≤ n):RG (fun p=>okE p.1=true∧Shr ts p.2) (ofK rd k ts):=by
 have:=hr ts ok hn
 unfold ofK
 cases h:rd ts with
 | error f=>exact this.of_err h
 | ok p =>
  obtain ⟨⟨e,k'⟩,r⟩:=p
  have:=this.of_ok h
  show RG _ (if _ then _ else _)
  split
  ·exact this
  ·show 163 ≠ 0;decide
theorem argsF_rg {n:Nat} {rd:ExprRd} (hr:RdG n rd):∀ (ks:List UInt8) (first:Bool) (ts:List Tok),TokOK ts→ts.length ≤ n→RG (fun p=>okEs p.1=true∧p.1.length=ks.length∧TokOK p.2∧p.2.length ≤ ts.length) (argsF rd ks first ts)
 | [],first,ts,ok,hn=>⟨rfl,rfl,ok,Nat.le_refl _⟩
 | k::ks,first,ts,ok,hn=>by
  have hw:RG (fun r=>TokOK r∧r.length ≤ ts.length) (if first then Except.ok ts else Lang.want 4 mComma ts):=by
   cases first with
   | true=>exact ⟨ok,Nat.le_refl _⟩
   | false =>
    have:=want_rg (x:=mComma) (c:=4) (by decide) ok
    show RG _ (Lang.want 4 mComma ts)
    cases h:Lang.want 4 mComma ts with
    | error f=>exact this.of_err h
    | ok r=>have:=this.of_ok h;exact ⟨this.1,Nat.le_of_lt this.2⟩
  unfold argsF
  cases h1:(if first then Except.ok ts else Lang.want 4 mComma ts) with
  | error f=>exact hw.of_err h1
  | ok t1 =>
   have w1:=hw.of_ok h1
   have w2:=ofK_rg hr k.toNat w1.1 (Nat.le_trans w1.2 hn)
   dsimp only
   cases h2:ofK rd k.toNat t1 with
   | error f=>exact w2.of_err h2
   | ok p2 =>
    obtain ⟨e,t2⟩:=p2
    have w2:=w2.of_ok h2
    have l2:t2.length < t1.length:=w2.2.2
    have l1:t1.length ≤ ts.length:=w1.2
    have w3:=argsF_rg hr ks false t2 w2.2.1 (by omega)
    dsimp only
    cases h3:argsF rd ks false t2 with
    | error f=>exact w3.of_err h3
    | ok p3 =>
     obtain ⟨es,t3⟩:=p3
     have w3:=w3.of_ok h3
     refine ⟨?_,?_,w3.2.2.1,?_⟩
     ·simp only [okEs,Bool.and_eq_true];exact ⟨w2.1,w3.1⟩
     ·simp [w3.2.1]
     ·have l3:t3.length ≤ t2.length:=w3.2.2.2;show t3.length ≤ ts.length;omega
theorem sigs_args {f:ByteArray} {s:Sig} (h:findS f sigs=some s):s.args.data.toList.length ≤ 3:=by
 have hm:s ∈ sigs:=List.mem_of_find?_eq_some h
 have hall:(sigs.all fun s=>decide (s.args.data.toList.length ≤ 3))=true:=by decide
 exact of_decide_eq_true (List.all_eq_true.1 hall s hm)
theorem callF_rg {n:Nat} {rd:ExprRd} (hr:RdG n rd) {c:Nat} {t:Tok} {ts:List Tok} (ht:TokGood t) (ok:TokOK ts.tail) (hp:0 < ts.length) (hn:ts.tail.length ≤ n):RG (fun p=>okE p.1.1=true∧Shr ts p.2) (callF rd c t ts):=by
 unfold callF
 split
 ·show 164 ≠ 0;decide
 cases h:findS t.text sigs with
 | none=>show 162 ≠ 0;decide
 | some s =>
  have h3:=sigs_args h
  have w1:=argsF_rg hr s.args.data.toList true ts.tail ok hn
  dsimp only
  cases h1:argsF rd s.args.data.toList true ts.tail with
  | error f=>exact w1.of_err h1
  | ok p1 =>
   obtain ⟨es,t1⟩:=p1
   have w1:=w1.of_ok h1
   have w2:=want_rg (x:=mRp) (c:=4) (by decide) w1.2.2.1
   dsimp only
   cases h2:Lang.want 4 mRp t1 with
   | error f=>exact w2.of_err h2
   | ok t2 =>
    have w2:=w2.of_ok h2
    refine ⟨?_,w2.1,?_⟩
    ·show okE (.mk _ _ _ _ _)=true
     simp only [okE,Bool.and_eq_true,decide_eq_true_eq]
     exact ⟨⟨⟨by omega,by decide⟩,by rw [w1.2.1];exact h3⟩,w1.1⟩
    ·have l2:t2.length < t1.length:=w2.2
     have l1:t1.length ≤ ts.tail.length:=w1.2.2.2
     rw [List.length_tail] at l1
     show t2.length < ts.length;omega
theorem exprF_rg:∀ (n c:Nat) (vs:List Var),RdG n (exprF n c vs)
 | 0,c,vs=>fun ts ok hn=>absurd ok.pos (by omega)
 | n + 1,c,vs=>fun ts ok hn=>by
  cases ts with
  | nil=>exact absurd rfl ok.ne
  | cons t r =>
   unfold exprF
   simp only
   split
   ·rename_i h2
    have hc:t.cls=2:=by simpa using h2
    have hg:=ok.good (by omega)
    refine ⟨?_,Shr.of_tail ok (by omega)⟩
    show okE (.mk _ _ _ _ _)=true
    simp only [okE,Bool.and_eq_true,decide_eq_true_eq]
    have:=num_lt (hg.num hc)
    exact ⟨⟨⟨by omega,by decide⟩,by simp⟩,rfl⟩
   split
   ·rename_i h2
    have hc:t.cls=3:=by simpa using h2
    have hg:=ok.good (by omega)
    refine ⟨?_,Shr.of_tail ok (by omega)⟩
    show okE (.mk _ _ _ _ _)=true
    simp only [okE,Bool.and_eq_true,decide_eq_true_eq]
    exact ⟨⟨⟨by omega,hg.size⟩,by simp⟩,rfl⟩
   have w1:=fresh_rg ok
   cases h1:Lang.fresh (t::r) with
   | error f=>exact w1.of_err h1
   | ok p =>
    obtain ⟨t',r'⟩:=p
    have w1:=w1.of_ok h1
    have hf:=fresh_shr h1 ok
    obtain ⟨e1,w1⟩:=w1
    cases e1
    have hg:=ok.good (by rw [hf.2.1];decide)
    dsimp only
    split
    ·rename_i h3
     have s3:=isT_shr h3 (by decide) w1.1
     have hl:=w1.2
     have:=callF_rg (exprF_rg n (c + 1) vs) (c:=c) hg s3.1 w1.1.pos (by have:=s3.2;simp at hn ⊢;omega)
     cases h4:callF (exprF n (c + 1) vs) c t' r' with
     | error f=>exact this.of_err h4
     | ok p=>have:=this.of_ok h4;exact ⟨this.1,w1.trans this.2⟩
    ·cases h4:kindOf vs t'.text with
     | none=>show 162 ≠ 0;decide
     | some k =>
      refine ⟨?_,w1⟩
      show okE (.mk _ _ _ _ _)=true
      simp only [okE,Bool.and_eq_true,decide_eq_true_eq]
      exact ⟨⟨⟨by omega,hg.size⟩,by simp⟩,rfl⟩
theorem expr0_rg (n:Nat) (vs:List Var):RdG n (expr0 vs):=fun ts ok hn=>exprF_rg ts.length 0 vs ts ok (Nat.le_refl _)
theorem okE_zero:okE .zero=true:=by unfold Expr.zero;simp only [okE,okEs];decide
def BlkG (n:Nat) (blk:BlockRd):Prop:=∀ l vs ts,TokOK ts→ts.length ≤ n→RG (fun p=>okB p.1=true∧Shr ts p.2) (blk l vs ts)
theorem okS_mk {op name:ByteArray} {a b:Lang.Expr} {body els:List Lang.Stmt} (h1:okE a=true) (h2:okE b=true) (h3:okB body=true) (h4:okB els=true):okS (.mk op name a b body els)=true:=by
 simp only [okS,Bool.and_eq_true];exact ⟨⟨⟨h1,h2⟩,h3⟩,h4⟩
theorem emitF_rg (vs:List Var) {ts:List Tok} (ok:TokOK ts):RG (fun p=>okS p.1=true∧Shr ts p.2) (emitF vs ts):=by
 unfold emitF
 have w1:=ofK_rg (expr0_rg ts.length vs) kT ok (Nat.le_refl _)
 cases h1:ofK (expr0 vs) kT ts with
 | error f=>exact w1.of_err h1
 | ok p1 =>
 obtain ⟨a,t1⟩:=p1
 have w1:=w1.of_ok h1
 have w2:=want_rg (x:=mComma) (c:=4) (by decide) w1.2.1
 dsimp only at w2 ⊢
 cases h2:Lang.want 4 mComma t1 with
 | error f=>exact w2.of_err h2
 | ok t2 =>
 have w2:=w2.of_ok h2
 have w3:=ofK_rg (expr0_rg t2.length vs) kT w2.1 (Nat.le_refl _)
 dsimp only at w3 ⊢
 cases h3:ofK (expr0 vs) kT t2 with
 | error f=>exact w3.of_err h3
 | ok p3 =>
 obtain ⟨b,t3⟩:=p3
 have w3:=w3.of_ok h3
 have w4:=want_rg (x:=mSemi) (c:=4) (by decide) w3.2.1
 dsimp only at w4 ⊢
 cases h4:Lang.want 4 mSemi t3 with
 | error f=>exact w4.of_err h4
 | ok t4 =>
 have w4:=w4.of_ok h4
 exact ⟨okS_mk w1.1 w3.1 rfl rfl,w1.2.trans (w2.trans (w3.2.trans w4))⟩
theorem letF_rg (vs:List Var) {ts:List Tok} (ok:TokOK ts):RG (fun p=>okS p.1.1=true∧Shr ts p.2) (letF vs ts):=by
 unfold letF
 have w1:=unbound_rg (vs:=vs) ok
 cases h1:unboundF vs ts with
 | error f=>exact w1.of_err h1
 | ok p1 =>
 obtain ⟨x,t1⟩:=p1
 have w1:=w1.of_ok h1
 have w2:=want_rg (x:=mEq) (c:=4) (by decide) w1.1
 dsimp only at w2 ⊢
 cases h2:Lang.want 4 mEq t1 with
 | error f=>exact w2.of_err h2
 | ok t2 =>
 have w2:=w2.of_ok h2
 have w3:=expr0_rg t2.length vs t2 w2.1 (Nat.le_refl _)
 dsimp only at w3 ⊢
 cases h3:expr0 vs t2 with
 | error f=>exact w3.of_err h3
 | ok p3 =>
 obtain ⟨⟨b,k⟩,t3⟩:=p3
 have w3:=w3.of_ok h3
 have w4:=want_rg (x:=mSemi) (c:=4) (by decide) w3.2.1
 dsimp only at w4 ⊢
 cases h4:Lang.want 4 mSemi t3 with
 | error f=>exact w4.of_err h4
 | ok t4 =>
 have w4:=w4.of_ok h4
 exact ⟨okS_mk w3.1 okE_zero rfl rfl,w1.trans (w2.trans (w3.2.trans w4))⟩
theorem ifF_rg {n:Nat} {blk:BlockRd} (hb:BlkG n blk) (vs:List Var) {ts:List Tok} (ok:TokOK ts) (hn:ts.length ≤ n):RG (fun p=>okS p.1=true∧Shr ts p.2) (ifF blk vs ts):=by
 unfold ifF
 have w1:=ofK_rg (expr0_rg ts.length vs) kN ok (Nat.le_refl _)
 cases h1:ofK (expr0 vs) kN ts with
 | error f=>exact w1.of_err h1
 | ok p1 =>
 obtain ⟨a,t1⟩:=p1
 have w1:=w1.of_ok h1
 have l1:=w1.2.2
 dsimp only at l1
 have w2:=hb false vs t1 w1.2.1 (by omega)
 dsimp only at w2 ⊢
 cases h2:blk false vs t1 with
 | error f=>exact w2.of_err h2
 | ok p2 =>
 obtain ⟨b,t2⟩:=p2
 have w2:=w2.of_ok h2
 have l2:=w2.2.2
 dsimp only at l2 ⊢
 split
 ·rename_i h3
  have s3:=isT_shr h3 (by decide) w2.2.1
  have w4:=hb false vs t2.tail s3.1 (by have:=s3.2;omega)
  cases h4:blk false vs t2.tail with
  | error f=>exact w4.of_err h4
  | ok p4 =>
  obtain ⟨c,t4⟩:=p4
  have w4:=w4.of_ok h4
  exact ⟨okS_mk w1.1 okE_zero w2.1 w4.1,w1.2.trans (w2.2.trans (s3.trans w4.2))⟩
 ·exact ⟨okS_mk w1.1 okE_zero w2.1 rfl,w1.2.trans w2.2⟩
theorem forF_rg {n:Nat} {blk:BlockRd} (hb:BlkG n blk) (vs:List Var) {ts:List Tok} (ok:TokOK ts) (hn:ts.length ≤ n):RG (fun p=>okS p.1=true∧Shr ts p.2) (forF blk vs ts):=by
 unfold forF
 have w1:=unbound_rg (vs:=vs) ok
 cases h1:unboundF vs ts with
 | error f=>exact w1.of_err h1
 | ok p1 =>
 obtain ⟨x,t1⟩:=p1
 have w1:=w1.of_ok h1
 have w2:=want_rg (x:=wIn) (c:=1) (by decide) w1.1
 dsimp only at w2 ⊢
 cases h2:Lang.want 1 wIn t1 with
 | error f=>exact w2.of_err h2
 | ok t2 =>
 have w2:=w2.of_ok h2
 have w3:=ofK_rg (expr0_rg t2.length vs) kL w2.1 (Nat.le_refl _)
 dsimp only at w3 ⊢
 cases h3:ofK (expr0 vs) kL t2 with
 | error f=>exact w3.of_err h3
 | ok p3 =>
 obtain ⟨a,t3⟩:=p3
 have w3:=w3.of_ok h3
 have sh:=w1.trans (w2.trans w3.2)
 have l3:=sh.2
 dsimp only at l3
 have w4:=hb true (vs++[(x,kT)]) t3 w3.2.1 (by omega)
 dsimp only at w4 ⊢
 cases h4:blk true (vs++[(x,kT)]) t3 with
 | error f=>exact w4.of_err h4
 | ok p4 =>
 obtain ⟨b,t4⟩:=p4
 have w4:=w4.of_ok h4
 exact ⟨okS_mk w3.1 okE_zero w4.1 rfl,sh.trans w4.2⟩
theorem eachF_rg {n:Nat} {blk:BlockRd} (hb:BlkG n blk) (vs:List Var) {ts:List Tok} (ok:TokOK ts) (hn:ts.length ≤ n):RG (fun p=>okS p.1=true∧Shr ts p.2) (eachF blk vs ts):=by
 unfold eachF
 have w1:=unbound_rg (vs:=vs) ok
 cases h1:unboundF vs ts with
 | error f=>exact w1.of_err h1
 | ok p1 =>
 obtain ⟨x,t1⟩:=p1
 have w1:=w1.of_ok h1
 have w2:=want_rg (x:=wIn) (c:=1) (by decide) w1.1
 dsimp only at w2 ⊢
 cases h2:Lang.want 1 wIn t1 with
 | error f=>exact w2.of_err h2
 | ok t2 =>
 have w2:=w2.of_ok h2
 have w3:=ofK_rg (expr0_rg t2.length vs) kT w2.1 (Nat.le_refl _)
 dsimp only at w3 ⊢
 cases h3:ofK (expr0 vs) kT t2 with
 | error f=>exact w3.of_err h3
 | ok p3 =>
 obtain ⟨a,t3⟩:=p3
 have w3:=w3.of_ok h3
 have w4:=want_rg (x:=wBy) (c:=1) (by decide) w3.2.1
 dsimp only at w4 ⊢
 cases h4:Lang.want 1 wBy t3 with
 | error f=>exact w4.of_err h4
 | ok t4 =>
 have w4:=w4.of_ok h4
 have w5:=ofK_rg (expr0_rg t4.length vs) kT w4.1 (Nat.le_refl _)
 dsimp only at w5 ⊢
 cases h5:ofK (expr0 vs) kT t4 with
 | error f=>exact w5.of_err h5
 | ok p5 =>
 obtain ⟨b,t5⟩:=p5
 have w5:=w5.of_ok h5
 have sh:=w1.trans (w2.trans (w3.2.trans (w4.trans w5.2)))
 have l3:=sh.2
 dsimp only at l3
 have w6:=hb true (vs++[(x,kT)]) t5 w5.2.1 (by omega)
 dsimp only at w6 ⊢
 cases h6:blk true (vs++[(x,kT)]) t5 with
 | error f=>exact w6.of_err h6
 | ok p6 =>
 obtain ⟨c,t6⟩:=p6
 have w6:=w6.of_ok h6
 exact ⟨okS_mk w3.1 w5.1 w6.1 rfl,sh.trans w6.2⟩
theorem stmtF_rg {n:Nat} {blk:BlockRd} (hb:BlkG n blk) (vs:List Var) {ts:List Tok} (ok:TokOK ts) (hn:ts.length ≤ n + 1):RG (fun p=>okS p.1.1=true∧Shr ts p.2) (stmtF blk vs ts):=by
 cases ts with
 | nil=>exact absurd rfl ok.ne
 | cons t r =>
  unfold stmtF
  simp only
  split
  ·show 161 ≠ 0;decide
  rename_i h1
  have s1:Shr (t::r) r:=Shr.of_tail ok (by simp at h1;omega)
  have hr:r.length ≤ n:=by simpa using hn
  split
  ·exact (emitF_rg vs s1.1).map fun p hp=>⟨hp.1,s1.trans hp.2⟩
  split
  ·exact (letF_rg vs s1.1).map fun p hp=>⟨hp.1,s1.trans hp.2⟩
  split
  ·exact (ifF_rg hb vs s1.1 hr).map fun p hp=>⟨hp.1,s1.trans hp.2⟩
  split
  ·exact (eachF_rg hb vs s1.1 hr).map fun p hp=>⟨hp.1,s1.trans hp.2⟩
  split
  ·exact (forF_rg hb vs s1.1 hr).map fun p hp=>⟨hp.1,s1.trans hp.2⟩
  ·show 161 ≠ 0;decide
theorem blockG_rg {n:Nat} {rd:Nat→Nat→List Var→List Tok→R (List Lang.Stmt × List Tok)} (hr:∀ b l vs ts,TokOK ts→ts.length ≤ n→RG (fun p=>okB p.1=true∧Shr ts p.2) (rd b l vs ts)) (b l:Nat):BlkG (n + 1) (blockG rd b l):=fun loop vs ts ok hn=>by
 unfold blockG
 split
 ·show 164 ≠ 0;decide
 have w1:=want_rg (x:=mLb) (c:=4) (by decide) ok
 cases h1:Lang.want 4 mLb ts with
 | error f=>exact w1.of_err h1
 | ok t1 =>
  have w1:=w1.of_ok h1
  have l1:=w1.2
  have w2:=hr (b + 1) (if loop then l + 1 else l) vs t1 w1.1 (by omega)
  dsimp only at w2 ⊢
  cases h2:rd (b + 1) (if loop then l + 1 else l) vs t1 with
  | error f=>exact w2.of_err h2
  | ok p2=>have w2:=w2.of_ok h2;exact ⟨w2.1,w1.trans w2.2⟩
theorem stmtsF_rg:∀ (n b l:Nat) (vs:List Var) (ts:List Tok),TokOK ts→ts.length ≤ n→RG (fun p=>okB p.1=true∧Shr ts p.2) (stmtsF n b l vs ts)
 | 0,b,l,vs,ts,ok,hn=>absurd ok.pos (by omega)
 | n + 1,b,l,vs,ts,ok,hn=>by
  unfold stmtsF
  split
  ·rename_i h1
   exact ⟨rfl,isT_shr h1 (by decide) ok⟩
  have hb:BlkG n (blockG (stmtsF n) b l):=fun loop vs ts ok hn=>blockG_rg (fun b l vs ts ok hn=>stmtsF_rg n b l vs ts ok hn) b l loop vs ts ok (by omega)
  have w1:=stmtF_rg hb vs ok hn
  cases h1:stmtF (blockG (stmtsF n) b l) vs ts with
  | error f=>exact w1.of_err h1
  | ok p1 =>
   obtain ⟨⟨s,vs'⟩,t1⟩:=p1
   have w1:=w1.of_ok h1
   have l1:=w1.2.2
   dsimp only at l1
   have w2:=stmtsF_rg n b l vs' t1 w1.2.1 (by omega)
   dsimp only at w2 ⊢
   cases h2:stmtsF n b l vs' t1 with
   | error f=>exact w2.of_err h2
   | ok p2 =>
    obtain ⟨ss,t2⟩:=p2
    have w2:=w2.of_ok h2
    refine ⟨?_,w1.2.trans w2.2⟩
    simp only [okB,Bool.and_eq_true];exact ⟨w1.1,w2.1⟩
theorem block0_rg (vs:List Var) {ts:List Tok} (ok:TokOK ts):RG (fun p=>okB p.1=true∧Shr ts p.2) (block0 vs ts) :=
 blockG_rg (n:=ts.length) (fun b l vs ts' ok hn=>stmtsF_rg ts.length b l vs ts' ok hn) 0 0 false vs ts ok (Nat.le_succ _)
def okP (p:Lang.Prog):Prop:=okB p.map=true∧okB p.combine=true∧okB p.reduce=true∧okE p.part=true
theorem reduceF_rg {p:Lang.Prog} (hp:okB p.map=true∧okB p.combine=true∧okE p.part=true) {ts:List Tok} (ok:TokOK ts):RG okP (reduceF p ts):=by
 unfold reduceF
 have w1:=want_rg (x:=wReduce) (c:=1) (by decide) ok
 cases h1:Lang.want 1 wReduce ts with
 | error f=>exact w1.of_err h1
 | ok t1 =>
 have w1:=w1.of_ok h1
 have w2:=block0_rg manyV w1.1
 dsimp only at w2 ⊢
 cases h2:block0 manyV t1 with
 | error f=>exact w2.of_err h2
 | ok p2 =>
 obtain ⟨l,t2⟩:=p2
 have w2:=w2.of_ok h2
 dsimp only at w2 ⊢
 unfold partF
 have w3:RG (fun p=>okP p.1) (partE { p with reduce:=l } t2):=by
  unfold partE
  split
  ·rename_i h3
   have s3:=isT_shr h3 (by decide) w2.2.1
   have w4:=ofK_rg (expr0_rg t2.tail.length [(wKey,kT),(wParts,kN)]) kN s3.1 (Nat.le_refl _)
   cases h4:ofK (expr0 [(wKey,kT),(wParts,kN)]) kN t2.tail with
   | error f=>exact w4.of_err h4
   | ok p4 =>
   obtain ⟨e,t4⟩:=p4
   have w4:=w4.of_ok h4
   have w5:=want_rg (x:=mSemi) (c:=4) (by decide) w4.2.1
   dsimp only at w5 ⊢
   cases h5:Lang.want 4 mSemi t4 with
   | error f=>exact w5.of_err h5
   | ok t5=>exact ⟨hp.1,hp.2.1,w2.1,w4.1⟩
  ·exact ⟨hp.1,hp.2.1,w2.1,hp.2.2⟩
 cases h3:partE { p with reduce:=l } t2 with
 | error f=>exact w3.of_err h3
 | ok p3 =>
 obtain ⟨q,t3⟩:=p3
 have w3:=w3.of_ok h3
 dsimp only at w3 ⊢
 unfold Lang.want
 by_cases h4:isT t3 0 empty=true
 ·rw [if_pos h4];exact w3
 ·rw [if_neg h4];show 161 ≠ 0;decide
theorem programF_rg {ts:List Tok} (ok:TokOK ts):RG okP (programF ts):=by
 unfold programF
 have w1:=want_rg (x:=wMap) (c:=1) (by decide) ok
 cases h1:Lang.want 1 wMap ts with
 | error f=>exact w1.of_err h1
 | ok t1 =>
 have w1:=w1.of_ok h1
 have w2:=block0_rg [(wKey,kT),(wValue,kT)] w1.1
 dsimp only at w2 ⊢
 cases h2:block0 [(wKey,kT),(wValue,kT)] t1 with
 | error f=>exact w2.of_err h2
 | ok p2 =>
 obtain ⟨m,t2⟩:=p2
 have w2:=w2.of_ok h2
 dsimp only at w2 ⊢
 split
 ·rename_i h3
  have s3:=isT_shr h3 (by decide) w2.2.1
  have w4:=block0_rg manyV s3.1
  cases h4:block0 manyV t2.tail with
  | error f=>exact w4.of_err h4
  | ok p4 =>
  obtain ⟨c,t4⟩:=p4
  have w4:=w4.of_ok h4
  exact reduceF_rg ⟨w2.1,w4.1,okE_zero⟩ w4.2.1
 ·exact reduceF_rg ⟨w2.1,rfl,okE_zero⟩ w2.2.1
theorem parseF_rg (s:ByteArray):RG okP (parseF s):=by
 unfold parseF
 split
 ·show 1 ≠ 0;decide
 ·rename_i hs
  cases h:scanF s (s.size + 1) 0 with
  | error i=>show 160 ≠ 0;decide
  | ok ts=>exact programF_rg (scanF_ok (by omega) _ _ _ (Nat.zero_le _) h).1
mutual
theorem needS_le:∀ s:Lang.Stmt,needS s ≤ szS s
 | .mk _ _ a b body els=>by
  rw [needS,szS]
  have:=needB_le body
  have:=needB_le els
  omega
theorem needB_le:∀ l:List Lang.Stmt,needB l ≤ szSs l
 | []=>Nat.zero_le _
 | s::l=>by
  rw [needB,szSs]
  have:=needS_le s
  have:=needB_le l
  omega
end
theorem parseF_small {s:ByteArray} {p:Lang.Prog} (h:parseF s=.ok p):SmP 4097 p:=by
 unfold parseF at h
 split at h
 ·cases h
 ·rename_i hs
  split at h
  ·cases h
  ·rename_i ts h1
   have:=(scanF_ok (by omega) _ _ _ (Nat.zero_le _) h1).2
   exact programF_sz (by omega) (by decide) h
end Go.Proofs.YtibigfkeaemanaaGreatDoor.L
end
section
namespace Go.Proofs.YtibigfkeaemanaaGreatDoor.X
open Go.Ab
set_option maxRecDepth 100000
noncomputable def code4:Code:=match Tryz.f4.body with | some c=>c | none=>.skip
noncomputable def res4:List ResultVar:=Tryz.f4.results.toList
def L4:Nat→Option (List Nat):=fun r=>if r=7 then some [0,1,5,7,8,9] else if r=8 then some [0,1,5,7,8,9] else if r=10 then some [0,1,5,7,8,9,10] else if r=16 then some [0,1,5,7,8,9] else if r=24 then some [0,1,5,8,11,12,13] else if r=25 then some [0,1,5,8,11,12,13] else none
noncomputable def H4_7 (t0 t1 t5 t7 t8 t9:Value) (h:AH) (Q:RQ):Prop:=HL Tryz.prog (cAt code4 [.r,.r,.r,.r,.r,.l,.r,.i,.i]) (mkA 123 [(0,t0),(1,t1),(5,t5),(7,t7),(8,t8),(9,t9)]) h (ctxAt Tryz.prog L4 code4 [.r,.r,.r,.r,.r,.l,.r,.i] (retK Tryz.prog res4 Q))
noncomputable def X4 (t0 t1:Value) (h:AH) (Q:RQ):Prop :=
 let t4:Value:=(Value.bool false)
 HC Tryz.prog 12 (([]:List Value)++[]++([]:List Value)).toArray h (resK (fun t15 h =>
 bq (unV Tryz.prog .not t15) fun t16 =>
 condP (some t16)
 (let t4:Value:=(Value.bool false)
 Q (.ret t4) h)
 (HC Tryz.prog 7 (([]:List Value)++[(Value.string (ByteArray.mk #[109,97,112,32,123,32,101,97,99,104,32,119,32,105,110,32,118,97,108,117,101,32,98,121,32,34,32,34,32,123,32,101,109,105,116,32,119,44,32,34,49,34,59,32,125,32,125,32,114,101,100,117,99,101,32,123,32,101,109,105,116,32,107,101,121,44,32,116,101,120,116,40,115,117,109,40,118,97,108,117,101,115,41,41,59,32,125]))]++([]:List Value)).toArray h (resK (fun t18 h =>
 let t17:Value:=t18
 bq (opExtract t17 0) fun t19 =>
 bq (opExtract t17 1) fun t20 =>
 (fun t6 h =>
 let t5:Value:=t19
 bq (stN 2 h t6 t20) fun h=>(fun _ h =>
 let t7:Value:=(Value.string (ByteArray.mk #[]))
 let t8:Value:=(Value.int .i64 0)
 let t9:Value:=(Value.int .i64 0)
 H4_7 t0 t1 t5 t7 t8 t9 h Q) undef h) (opNew h 25 #[(Value.int .i64 0),(Value.int .i64 0)]).1 (opNew h 25 #[(Value.int .i64 0),(Value.int .i64 0)]).2) (fun v h=>Q (.pan v) h)))) (fun v h=>Q (.pan v) h))
end Go.Proofs.YtibigfkeaemanaaGreatDoor.X
end
section
namespace Go.Proofs.YtibigfkeaemanaaGreatDoor.L
open Go.Ab Go.Lang Go.Proofs.YtibigfkeaemanaaGreatDoor.X
set_option maxRecDepth 100000
def ParseP (h:AH) (rs:R Lang.Prog) (r:Res) (h':AH):Prop:=Kp h.size h h'∧match rs with
 | .ok p=>∃ q,r=.ret (.tuple #[.pointer (some ⟨q,0,none⟩),.agg #[.int .i64 0,.int .i64 0]])∧h.size ≤ q∧q < h'.size∧h'.get q=some (.cells (celP p).toArray 66 (0,0),none)
 | .error f=>r=.ret (.tuple #[.pointer none,.agg #[.int .i64 f.1,.int .i64 f.2]])
theorem res5V {h:AH} {x y:Value}:resultsV Tryz.prog h res7 [some x,some y]=seqO [ld1 h x,ldN 2 h y]:=by kernel_rfl
theorem parse_leave {h h1:AH} {p a b:Value} {rs:R Lang.Prog} (g0:h1.get h.size=some (.cells #[p] 22 (0,0),none)) (g1:h1.get (h.size + 1)=some (.cells #[a,b] 25 (0,0),none)) (hq:ParseP h rs (.ret (.tuple #[p,.agg #[a,b]])) h1) :
  retV Tryz.prog res7 (ParseP h rs) [] [some (.pointer (some ⟨h.size,0,none⟩)),some (.pointer (some ⟨h.size + 1,0,none⟩))] h1:=by
 unfold retV
 simp (disch:=first|exact dz|fail) only [SXB,SX,simprocAttr]
 rw [res5V,ldN_full (n:=2) g1 rfl]
 simp (disch:=first|exact dz|fail) only [g0,SXB,SX,simprocAttr]
 exact hq
theorem neq_fault {t:Nat} {a b:Int} {h:AH}:binV Tryz.prog .neq 20 (.tmp t) (.const Value.nilIface) (.iface 25 (.agg #[.int .i64 a,.int .i64 b])) .nilIface h=some (.bool true):=by kernel_rfl
theorem assert_fault {a b:Int}:opTypeAssert Tryz.prog (.iface 25 (.agg #[.int .i64 a,.int .i64 b])) 25 false=some (.agg #[.int .i64 a,.int .i64 b]):=by kernel_rfl
theorem leave_pan {h h1:AH} {f:Nat × Nat} {a b:Value} {rs:R Lang.Prog} (hrs:rs=.error f) (g0:h1.get h.size=some (.cells #[a] 22 (0,0),none)) (g1:h1.get (h.size + 1)=some (.cells #[.int .i64 0,.int .i64 0] 25 (0,0),none)) (K:Kp h.size h h1) :
  panD Tryz.prog res7 (ParseP h rs) [.func (.func 16) #[] #[.pointer (some ⟨h.size,0,none⟩),.pointer (some ⟨h.size + 1,0,none⟩)]] [some (.pointer (some ⟨h.size,0,none⟩)),some (.pointer (some ⟨h.size + 1,0,none⟩))] (faultV f) h1:=by
 unfold panD
 rw [dAllP_cons]
 refine D16p_ok ?_
 unfold D16p faultV
 generalize hs2:stN 2=s2
 generalize hs1:stN 1=s1
 simp (disch:=first|exact dz|fail) only [neq_fault,assert_fault,g0,SXB,SX,simprocAttr]
 subst hs2 hs1
 refine bq_of (stN_full g0 rfl rfl (fun z hz=>by simp [Value.cells] at hz;subst hz;rfl)) ?_
 refine bq_of (stN_full ((get_put_ne (by omega)).trans g1) rfl rfl (fun z hz=>by simp [Value.cells] at hz;rcases hz with rfl | rfl <;> rfl)) ?_
 simp (disch:=first|exact dz|fail) only [SXB,SX,simprocAttr]
 have:=parse_leave (h:=h) (p:=.pointer none) (a:=.int .i64 f.1) (b:=.int .i64 f.2) (rs:=rs) ((get_put_ne (by omega)).trans (get_put_eq rfl)) (get_put_eq rfl) (h1:=(h1.put h.size (some (.cells #[.pointer none] 22 (0,0),none))).put (h.size + 1) (some (.cells (Value.agg #[.int .i64 f.1,.int .i64 f.2]).cells 25 (0,0),none))) ⟨by (repeat (first | exact Kp.refl _ _ | assumption | refine Kp.push ?_ _ _ (by first | omega | (simp only [sz_push,sz_put];omega)) | refine Kp.put ?_ _ _ (by first | omega | (simp only [sz_push,sz_put];omega)))),by rw [hrs]⟩
 unfold retV at this
 rw [dAllP_nil] at this
 simpa only [leftV_ret,cells_agg] using this
theorem leave_ret {h h1:AH} {p a b:Value} {rs:R Lang.Prog} (g0:h1.get h.size=some (.cells #[p] 22 (0,0),none)) (g1:h1.get (h.size + 1)=some (.cells #[a,b] 25 (0,0),none)) (hq:ParseP h rs (.ret (.tuple #[p,.agg #[a,b]])) h1) :
  retV Tryz.prog res7 (ParseP h rs) [.func (.func 16) #[] #[.pointer (some ⟨h.size,0,none⟩),.pointer (some ⟨h.size + 1,0,none⟩)]] [some (.pointer (some ⟨h.size,0,none⟩)),some (.pointer (some ⟨h.size + 1,0,none⟩))] h1:=by
 have:=parse_leave g0 g1 hq
 unfold retV at this ⊢
 rw [dAllP_nil] at this
 rw [dAllP_cons]
 refine D16r_ok ?_
 unfold D16r
 simp (disch:=first|exact dz|fail) only [SXB,SX,simprocAttr]
 simpa only [leftV_ret,cells_agg] using this
theorem parse_ok {h:AH} {s:ByteArray} (G:Glob h):HC Tryz.prog 7 [.string s].toArray h (ParseP h (parseF s)):=by
 refine X7_ok ?_
 unfold X7
 generalize hs1:stN 1=s1
 generalize hs2:stN 2=s2
 generalize hl2:ldN 2=l2
 generalize hl3:ldN 3=l3
 by_cases hbig:4096 < s.size
 ·have e:((s.size:Nat):Int) > 4096:=by omega
  simp (disch:=first|exact dz|fail) only [e,SXB,SX,simprocAttr]
  subst hs1 hs2 hl2 hl3
  refine bq_of (x:=.agg #[.int .i64 1,.int .i64 0]) rfl ?_
  refine bq_of (stN_full (c:=#[.pointer none]) (e:=22) (s:=none) (by rw [get_push_ne (by simp)];exact get_push_eq rfl) rfl rfl (fun z hz=>by simp [Value.cells] at hz;subst hz;rfl)) ?_
  refine bq_of (stN_full (c:=#[.int .i64 0,.int .i64 0]) (e:=25) (s:=none) (by rw [get_put_ne (by omega)];exact get_push_eq (by simp)) rfl rfl (fun z hz=>by simp [Value.cells] at hz;rcases hz with rfl | rfl <;> rfl)) ?_
  unfold retV
  simp (disch:=first|exact dz|fail) only [SXB,SX,simprocAttr]
  rw [res5V,ldN_full (n:=2) (get_put_eq rfl) rfl]
  have g1:((((h.push (.cells #[.pointer none] 22 (0,0)) none).push (.cells #[.int .i64 0,.int .i64 0] 25 (0,0)) none).put h.size (some (.cells #[.pointer none] 22 (0,0),none))).put (h.size + 1) (some (.cells #[.int .i64 1,.int .i64 0] 25 (0,0),none))).get h.size=some (.cells #[.pointer none] 22 (0,0),none):=by rw [get_put_ne (by omega)];exact get_put_eq rfl
  simp (disch:=first|exact dz|fail) only [g1,SXB,SX,simprocAttr]
  refine ⟨by (repeat (first | exact Kp.refl _ _ | assumption | refine Kp.push ?_ _ _ (by first | omega | (simp only [sz_push,sz_put];omega)) | refine Kp.put ?_ _ _ (by first | omega | (simp only [sz_push,sz_put];omega)))),?_⟩
  have hx:parseF s=.error (1,0):=by unfold parseF;rw [if_pos hbig]
  rw [hx]
  rfl
 ·have e:¬ (((s.size:Nat):Int) > 4096):=by omega
  simp (disch:=first|exact dz|fail) only [e,SXB,SX,simprocAttr]
  subst hs1 hs2 hl2 hl3
  have hs:s.size ≤ 4096:=by omega
  refine scan_ok hs ?_
  cases hsc:scanF s (s.size + 1) 0 with
  | error j =>
   intro h2 K2
   have hx:parseF s=.error (160,j):=by unfold parseF;rw [if_neg hbig,hsc]
   have z2:=K2.size
   simp only [sz_push] at z2
   have g0:h2.get h.size=some (.cells #[.pointer none] 22 (0,0),none):=by rw [K2.get _ (by simp;omega),get_push_ne (by simp)];exact get_push_eq rfl
   have g1:h2.get (h.size + 1)=some (.cells #[.int .i64 0,.int .i64 0] 25 (0,0),none):=by rw [K2.get _ (by simp)];exact get_push_eq (by simp)
   simp only [resK_ret]
   refine bq_of (x:=.slice none 0 0) rfl ?_
   refine bq_of (x:=.agg #[.int .i64 160,.int .i64 (j:Nat)]) rfl ?_
   refine bq_of (stN_full g1 rfl rfl (fun z hz=>by simp [Value.cells] at hz;rcases hz with rfl | rfl <;> rfl)) ?_
   refine bq_of (ldN_full (get_put_eq rfl) rfl) ?_
   generalize hs1:stN 1=s1
   generalize hs2:stN 2=s2
   generalize hl2:ldN 2=l2
   have e160:((160:Int) == 0)=false:=rfl
   simp (disch:=first|exact dz|fail) only [e160,SXB,SX,simprocAttr]
   subst hs1 hs2 hl2
   refine bq_of (ldN_full (get_put_eq rfl) rfl) ?_
   refine bq_of (stN_full ((get_put_ne (by omega)).trans g0) rfl rfl (fun z hz=>by simp [Value.cells] at hz;subst hz;rfl)) ?_
   refine ⟨bq_of (ldN_full ((get_put_ne (by omega)).trans (get_put_eq rfl)) rfl) rfl,?_⟩
   refine bq_of (stN_full ((get_put_ne (by omega)).trans (get_put_eq rfl)) rfl rfl (fun z hz=>by simp [Value.cells] at hz;rcases hz with rfl | rfl <;> rfl)) ?_
   refine parse_leave (p:=.pointer none) (a:=.int .i64 160) (b:=.int .i64 (j:Nat)) ((get_put_ne (by omega)).trans (get_put_eq rfl)) (get_put_eq rfl) ?_
   rw [hx]
   refine ⟨?_,rfl⟩
   have K3:Kp h.size h h2:=⟨by omega,fun k hk=>(K2.get k (by simp;omega)).trans (by rw [get_push_ne (by simp;omega),get_push_ne (by omega)])⟩
   (repeat (first | exact Kp.refl _ _ | assumption | refine Kp.push ?_ _ _ (by first | omega | (simp only [sz_push,sz_put];omega)) | refine Kp.put ?_ _ _ (by first | omega | (simp only [sz_push,sz_put];omega))))
  | ok ts =>
   intro h2 v K2 O hb
   have hx:parseF s=programF ts:=by unfold parseF;rw [if_neg hbig,hsc]
   obtain ⟨tok,hlen⟩:=scanF_ok hs _ _ _ (Nat.zero_le _) hsc
   have z2:=K2.size
   have zG:=G.size
   simp only [sz_push] at z2
   have g0:h2.get h.size=some (.cells #[.pointer none] 22 (0,0),none):=by rw [K2.get _ (by simp;omega),get_push_ne (by simp)];exact get_push_eq rfl
   have g1:h2.get (h.size + 1)=some (.cells #[.int .i64 0,.int .i64 0] 25 (0,0),none):=by rw [K2.get _ (by simp)];exact get_push_eq (by simp)
   rw [List.nil_append] at O
   simp only [resK_ret]
   refine bq_of (x:=v) rfl ?_
   refine bq_of (x:=.agg #[.int .i64 0,.int .i64 0]) rfl ?_
   refine bq_of (stN_full g1 rfl rfl (fun z hz=>by simp [Value.cells] at hz;rcases hz with rfl | rfl <;> rfl)) ?_
   refine bq_of (ldN_full (get_put_eq rfl) rfl) ?_
   have hkey:∀ k,blkOf v=some k→h.size + 4 ≤ k:=fun k hk=>by have:=O.key k hk;simp at this;omega
   have O2:Ab.Own 55 3 (h2.put (h.size + 1) (some (.cells (Value.agg #[.int .i64 0,.int .i64 0]).cells 25 (0,0),none))) v (ts.map encT):=(Own.of_hld O).mono fun k hk=>get_put_ne (by have:=hkey k hk;omega)
   have K3:Kp h.size h (h2.put (h.size + 1) (some (.cells (Value.agg #[.int .i64 0,.int .i64 0]).cells 25 (0,0),none))):=⟨by simp;omega,fun k hk=>(get_put_ne (by omega)).trans ((K2.get k (by simp;omega)).trans (by rw [get_push_ne (by simp;omega),get_push_ne (by omega)]))⟩
   have g03:=(get_put_ne (h:=h2) (k:=h.size + 1) (j:=h.size) (v:=some (.cells (Value.agg #[.int .i64 0,.int .i64 0]).cells 25 (0,0),none)) (by omega)).trans g0
   have g13:=get_put_eq (h:=h2) (k:=h.size + 1) (j:=h.size + 1) (v:=some (.cells (Value.agg #[.int .i64 0,.int .i64 0]).cells 25 (0,0),none)) rfl
   have hb3:∀ k,blkOf v=some k→k < (h2.put (h.size + 1) (some (.cells (Value.agg #[.int .i64 0,.int .i64 0]).cells 25 (0,0),none))).size:=fun k hk=>by simpa using hb k hk
   have z3:h.size + 2 ≤ (h2.put (h.size + 1) (some (.cells (Value.agg #[.int .i64 0,.int .i64 0]).cells 25 (0,0),none))).size:=by simp;omega
   generalize h2.put (h.size + 1) (some (.cells (Value.agg #[.int .i64 0,.int .i64 0]).cells 25 (0,0),none))=h3 at O2 K3 g03 g13 hb3 z3 ⊢
   obtain ⟨e,he⟩:∃ e,ts[ts.length - 1]?=some e:=⟨ts[ts.length - 1]'(by have:=tok.pos;omega),List.getElem?_eq_getElem _⟩
   have hpos:=tok.pos
   have R:=O2.rd (encTs_size ts) hb3
   have elen:=O2.len
   rw [List.length_map] at elen
   obtain ⟨p,q1,q2,q3⟩:=R.el (ts.length - 1) (encT e) (by simp [he])
   have q4:=q2.ldN (n:=3) rfl
   rw [encT_cells] at q4
   have ew:IntKind.i64.wrap ((ts.length:Int) - 1)=((ts.length - 1:Nat):Int):=by rw [wrap64 (by omega) (by omega)];omega
   have ew2:(ts.length:Int) - 1=((ts.length - 1:Nat):Int):=by omega
   have e00:((0:Int) == 0)=true:=rfl
   have e7:bdF #[.int .i64 0,.int .i64 0,.string ⟨#[]⟩] [(0,3,.agg #[.int .i64 e.cls,.int .i64 e.at_,.string e.text])]=some #[.int .i64 e.cls,.int .i64 e.at_,.string e.text]:=rfl
   have hls:=K3.size
   generalize hs1:stN 1=s1
   generalize hs2:stN 2=s2
   generalize hl2:ldN 2=l2
   simp (disch:=first|exact dz|fail) only [e00,elen,ew,ew2,q1,q4,e7,SXB,SX,simprocAttr]
   subst hs1 hs2 hl2
   obtain ⟨s',h4,a1,a2,a3,a4,a5⟩:=O2.append1 (v:=encT e) (c:=#[.int .i64 e.cls,.int .i64 e.at_,.string e.text]) (bytes:=32) (zero:=.agg #[.int .i64 0,.int .i64 0,.string ⟨#[]⟩]) rfl hb3 (encTs_size ts) rfl (fun z hz=>by simp at hz;rcases hz with rfl | rfl | rfl <;> rfl) (by omega) (by omega) (by omega) rfl (by simp;omega)
   refine bq_of a1 ?_
   dsimp only
   have hbs:∀ k,blkOf s' = some k→h.size + 2 ≤ k∧k < h4.size:=fun k hk=>by
    rcases a5 with e1 | ⟨k',e1,b1,b2⟩
    ·rw [e1] at hk;have:=hkey k hk;have:=hb3 k hk;omega
    ·rw [e1] at hk;cases hk;omega
   obtain ⟨x1,x2,x3,rfl⟩:=a2.isSl
   refine bq_of (x:=.agg #[.slice x1 x2 x3,.slice none 0 0,.int .i64 0,.int .i64 0,.int .i64 0]) rfl ?_
   have f4:∀ k,k < h3.size→blkOf v ≠ some k→h4.get k=h3.get k:=a4
   have nv:∀ k,k < h.size + 2→blkOf v ≠ some k:=fun k hk e=>by have:=hkey k e;omega
   have ns:∀ k,k < h.size + 2→blkOf (.slice x1 x2 x3) ≠ some k:=fun k hk e=>by have:=hbs k e;omega
   have O5:Ab.Own 55 3 (h4.push (.cells #[.slice x1 x2 x3,.slice none 0 0,.int .i64 0,.int .i64 0,.int .i64 0] 58 (0,0)) none) (.slice x1 x2 x3) ((ts++[e]).map encT):=by
    rw [List.map_append]
    exact a2.mono fun k hk=>get_push_ne (by have:=hbs k hk;omega)
   rcases O5.turn (P:=Tryz.prog) (by omega) (encTs_size _) with ⟨_,hnil⟩ | ⟨h6,gu,gf,gs⟩
   ·simp at hnil
   have hkn:blkOf (.slice x1 x2 x3) ≠ some h4.size:=fun e=>by have:=hbs _ e;omega
   have gr:=gu.row (k:=h4.size) (c:=[.slice x1 x2 x3,.slice none 0 0,.int .i64 0,.int .i64 0,.int .i64 0]) (c':=[tokV e ts,.slice none 0 0,.int .i64 0,.int .i64 0,.int .i64 0]) (e:=58) (get_push_eq rfl) (gf _ hkn) (.cons .here (.cons (.same _) (.cons (.same _) (.cons (.same _) (.cons (.same _) .nil)))))
   refine HC.gh (pre:=[]) (post:=[]) (Gh.turn gr (.same _)) ?_
   have hs6:h6.size=h4.size + 1:=by rw [gs];simp
   have g7:∀ k,k < h.size + 2→(h6.put h4.size (some (.cells [tokV e ts,.slice none 0 0,.int .i64 0,.int .i64 0,.int .i64 0].toArray 58 (0,0),none))).get k=h3.get k:=fun k hk=>by
    rw [get_put_ne (by omega),gf k (ns k hk),get_push_ne (by omega)]
    exact f4 k (by omega) (nv k hk)
   have A7:Adv h4.size h (h6.put h4.size (some (.cells [tokV e ts,.slice none 0 0,.int .i64 0,.int .i64 0,.int .i64 0].toArray 58 (0,0),none))):=⟨by rw [sz_put];omega,fun k hk _=>(g7 k (by omega)).trans (K3.get k hk)⟩
   have S7:PS (h6.put h4.size (some (.cells [tokV e ts,.slice none 0 0,.int .i64 0,.int .i64 0,.int .i64 0].toArray 58 (0,0),none))) h4.size e ts (.slice none 0 0) [] 0 0 0:=⟨get_put_eq rfl,(.nil:Ab.Own 86 2 _ _ _),(fun e=>nomatch e),by rw [sz_put];omega,(fun k hk=>nomatch hk)⟩
   have g07:=(g7 h.size (by omega)).trans g03
   have g17:=(g7 (h.size + 1) (by omega)).trans g13
   have hs7:(h6.put h4.size (some (.cells [tokV e ts,.slice none 0 0,.int .i64 0,.int .i64 0,.int .i64 0].toArray 58 (0,0),none))).size=h4.size + 1:=by rw [sz_put];exact hs6
   have G7:=G.adv A7 (by omega)
   generalize h6.put h4.size (some (.cells [tokV e ts,.slice none 0 0,.int .i64 0,.int .i64 0,.int .i64 0].toArray 58 (0,0),none))=h7 at A7 S7 g07 g17 hs7 G7 ⊢
   refine HC.mono (program_ok S7 (by omega) G7 tok (by omega)) fun r h8 hp=>?_
   cases hpr:programF ts with
   | error f =>
    rw [hpr] at hp
    obtain ⟨rfl,A8⟩:=hp
    simp only [resK_pan]
    exact leave_pan (a:=.pointer none) (b:=.nilIface) (hx.trans hpr) ((A8.get _ (by omega) (by omega)).trans g07) ((A8.get _ (by omega) (by omega)).trans g17) ⟨by have:=A8.size;omega,fun k hk=>(A8.get k (by omega) (by omega)).trans (A7.get k hk (by omega))⟩
   | ok pr =>
    rw [hpr] at hp
    obtain ⟨rfl,gp,hs8,A8⟩:=hp
    simp only [resK_ret]
    refine bq_of (stN_full ((A8.get _ (by omega) (by omega)).trans g07) rfl rfl (fun z hz=>by simp [Value.cells] at hz;subst hz;rfl)) ?_
    refine bq_of (stN_full ((get_put_ne (by omega)).trans ((A8.get _ (by omega) (by omega)).trans g17)) rfl rfl (fun z hz=>by simp [Value.cells] at hz;rcases hz with rfl | rfl <;> rfl)) ?_
    refine leave_ret (p:=.pointer (some ⟨h7.size + 1,0,none⟩)) (a:=.int .i64 0) (b:=.int .i64 0) ((get_put_ne (by omega)).trans (get_put_eq rfl)) (get_put_eq rfl) ⟨⟨by have:=A8.size;simp;omega,fun k hk=>(get_put_ne (by omega)).trans ((get_put_ne (by omega)).trans ((A8.get k (by omega) (by omega)).trans (A7.get k hk (by omega))))⟩,?_⟩
    rw [hx,hpr]
    exact ⟨h7.size + 1,rfl,by omega,by simp;omega,(get_put_ne (by omega)).trans ((get_put_ne (by omega)).trans gp)⟩
end Go.Proofs.YtibigfkeaemanaaGreatDoor.L
end
section
namespace Go.Lang
open Go.Lib
set_option maxRecDepth 100000
def cutV (s:ByteArray) (f c:Int):ByteArray:=let f:=min (max f 0) s.size;let k:=min (max c 0) (s.size - f);cellV (s.extract f.toNat (f.toNat + k.toNat))
end Go.Lang
end
section
namespace Go.Proofs.YtibigfkeaemanaaGreatDoor.L
open Go.Ab Go.Lang Go.Proofs.YtibigfkeaemanaaGreatDoor.X
set_option maxRecDepth 100000
structure Gl (h:AH):Prop where
 g:Glob h
 t:Tab h
theorem Gl.kp {h h':AH} (G:Gl h) (K:Kp h.size h h'):Gl h':=⟨G.g.kp K,G.t.kp K⟩
end Go.Proofs.YtibigfkeaemanaaGreatDoor.L
end
section
namespace Go.Ab
theorem any_split {α:Type} (f:α→Bool) (n:Nat) (l:List α) (h1:(l.take n).any f=false) (h2:(l.drop n).any f=false):l.any f=false:=by
 rw [← List.take_append_drop n l,List.any_append,h1,h2]
 rfl
theorem goes_none {P:Program} (h:P.funcs.toList.any Func.goes=false) {c:OpenClaim} (hs:c.start=.entering):false=c.goesBy P:=by
 have hf:∀ g:Nat,((P.funcs[g]?:Option Func).any Func.goes)=false:=by
  intro g
  cases hg:P.funcs[g]? with
  | none=>rfl
  | some fn =>
   have hm:fn ∈ P.funcs.toList:=by
    rw [← Array.getElem?_toList] at hg
    exact List.mem_of_getElem? hg
   have:=List.any_eq_false.1 h fn hm
   simpa using this
 have ha:P.funcs.any Func.goes=false:=by rw [← Array.any_toList];exact h
 have key:∀ f,P.goes f=false:=by
  intro f
  unfold Program.goes
  rw [ha]
  simp only [Bool.and_false,Bool.or_false]
  rw [List.any_eq_false]
  intro g _
  simp [hf g]
 unfold OpenClaim.goesBy Program.goesAt Program.goesFrom
 rw [hs]
 cases hn:P.funcNamed c.func with
 | none=>rfl
 | some f=>simp [key f]
end Go.Ab
end
