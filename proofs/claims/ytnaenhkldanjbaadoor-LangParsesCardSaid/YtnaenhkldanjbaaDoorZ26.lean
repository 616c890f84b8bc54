import Derived.Test.YtnaenhkldanjbaaDoorZ23
import Derived.Test.YtnaenhkldanjbaaDoorZ25
set_option linter.unusedVariables false
set_option linter.unusedSimpArgs false
section
namespace Go.Proofs.YtnaenhkldanjbaaDoor.L
open Go.Ab Go.Lang Go.Proofs.YtnaenhkldanjbaaDoor.X
set_option maxRecDepth 100000
variable {ow:Bool}
abbrev ER:=R ((Lang.Expr × Nat) × List Tok)
abbrev tailE (rs:ER):LS:=rs.map (·.2)
def exprW (w a:Nat):ER→ER
 | .ok ((e,k),r)=>if w != 0 && k != w then .error (163,a) else .ok ((e,k),r)
 | .error f=>.error f
def EPostR (ow:Bool) (kp:Nat) (T:List Tok) (bv:Value) (vs:List Var) (b l c:Nat) (h:AH) (rs:ER) (r:Res) (h':AH):Prop :=
 Adv kp h h'∧∃ i' e k,r=.ret (.tuple #[encE e,.int .u8 (k:Nat)])∧RSg ow h' kp T i' (tailE rs) bv vs b l c∧∀ y r,rs=.ok (y,r)→y=(e,k)
theorem rexpr_28 {h3:AH} {q:Nat} {e:Lang.Expr} {k:Nat} {c0:Array Value} {Q:RQ} (hc:c0.size=5) (g0:h3.get q=some (.cells c0 32 (0,0),none)) (g2:h3.get (q + 2)=some (.cells (celE e).toArray 32 (0,0),none))
  (hq:Q (.ret (.tuple #[encE e,.int .u8 (k:Nat)])) (h3.put q (some (.cells (celE e).toArray 32 (0,0),none)))):K17_28 (.pointer (some ⟨q,0,none⟩)) (.pointer (some ⟨q + 2,0,none⟩)) (.int .u8 (k:Nat)) h3 Q:=by
 refine X17_28_ok ?_
 unfold X17_28
 have hs:(celE e).toArray.size=5:=by simp [celE_len]
 refine bq_of (ldN_full g2 hs) ?_
 refine bq_of (stN_full g0 hc (by exact hs) (fun z hz=>celE_one e z (by simpa [Value.cells] using hz))) ?_
 have e5:=ldN_full (n:=5) (h:=h3.put q (some (.cells (celE e).toArray 32 (0,0),none))) (k:=q) (c:=(celE e).toArray) (e:=32) (fz:=(0,0)) (s:=none) (get_put_eq rfl) hs
 have ec:(Value.agg (celE e).toArray).cells=(celE e).toArray:=rfl
 rw [ec]
 show bq (seqO [ldN 5 _ _,some _]) _
 rw [e5]
 simp (disch:=(first | exact dz | fail)) only [SXB,SX,reduceIte,Int.reduceLT,Int.reduceLE,Int.reduceToNat,Int.reduceBEq,Int.reduceBNe,Nat.reduceAdd,Nat.reduceMul,Nat.reduceSub,Nat.reduceLeDiff]
 rw [encE_eq] at hq
 exact hq
theorem rexpr_end {h h2:AH} {kp i2:Nat} {T:List Tok} {bv:Value} {vs:List Var} {b l c w k:Nat} {t:Tok} {e:Lang.Expr} {rs:ER} (A:Adv kp h h2) (z:h.size + 3 ≤ h2.size) (hlt:kp < h.size) (hlb:∀ k,blkOf bv=some k→k < h.size) (S2:RSg ow h2 kp T i2 (tailE rs) bv vs b l c)
  (g0:∃ c0:Array Value,c0.size=5∧h2.get h.size=some (.cells c0 32 (0,0),none))
  (g1:h2.get (h.size + 1)=some (.cells #[.int .i64 t.cls,.int .i64 t.at_,.string t.text] 72 (0,0),none))
  (g2:h2.get (h.size + 2)=some (.cells (celE e).toArray 32 (0,0),none)) (hy:∀ y r,rs=.ok (y,r)→y=(e,k)) :
  K17_26 (.pointer (some ⟨kp,0,none⟩)) (.int .u8 (w:Nat)) (.pointer (some ⟨h.size,0,none⟩)) (.pointer (some ⟨h.size + 1,0,none⟩)) (.pointer (some ⟨h.size + 2,0,none⟩)) (.int .u8 (k:Nat)) h2 (EPostR ow kp T bv vs b l c h (exprW w t.at_ rs)):=by
 obtain ⟨c0,hc0,g0⟩:=g0
 refine X17_26_ok ?_
 unfold X17_26
 have fin:∀ h3 st3,RSg ow h3 kp T i2 st3 bv vs b l c→st3=tailE (exprW w t.at_ rs)→(∀ y r,exprW w t.at_ rs=.ok (y,r)→y=(e,k))→Adv kp h2 h3→K17_28 (.pointer (some ⟨h.size,0,none⟩)) (.pointer (some ⟨h.size + 2,0,none⟩)) (.int .u8 (k:Nat)) h3 (EPostR ow kp T bv vs b l c h (exprW w t.at_ rs)):=by
  intro h3 st3 S3 e3 hy3 a
  have hs3:=a.size
  refine rexpr_28 hc0 ((a.get _ (by omega) (by omega)).trans g0) ((a.get _ (by omega) (by omega)).trans g2) ⟨(A.trans a).put _ _ (.inr (Nat.le_refl _)),i2,e,k,rfl,?_,hy3⟩
  rw [← e3]
  exact S3.off _ (by omega) fun j hj=>by have:=hlb j hj;omega
 cases rs with
 | error f =>
  obtain ⟨hr,e0⟩:=RSg.dead (f:=f) S2
  simp (disch:=(first | exact dz | fail)) only [hr,e0,SXB,SX,reduceIte,Int.reduceLT,Int.reduceLE,Int.reduceToNat,Int.reduceBEq,Int.reduceBNe,Nat.reduceAdd,Nat.reduceMul,Nat.reduceSub,Nat.reduceLeDiff]
  exact fin h2 _ S2 rfl (fun y r e=>nomatch e) (.refl _ _)
 | ok y =>
  obtain ⟨⟨e',k'⟩,r⟩:=y
  have:=hy _ _ rfl
  cases this
  have hr:=RSg.live (ts:=r) S2
  have e0:((0:Int) == 0)=true:=rfl
  by_cases hw:w=0
  ·have e1:((w:Int) != 0)=false:=by simp [hw]
   have ex:exprW w t.at_ (.ok ((e,k),r))=.ok ((e,k),r):=by simp [exprW,hw]
   simp (disch:=(first | exact dz | fail)) only [hr,e0,e1,SXB,SX,reduceIte,Int.reduceLT,Int.reduceLE,Int.reduceToNat,Int.reduceBEq,Int.reduceBNe,Nat.reduceAdd,Nat.reduceMul,Nat.reduceSub,Nat.reduceLeDiff]
   refine fin h2 _ S2 (by rw [ex]) (fun y r h=>?_) (.refl _ _)
   rw [ex] at h;cases h;rfl
  ·have e1:((w:Int) != 0)=true:=by simp;omega
   by_cases hkw:k=w
   ·have e2:((k:Int) != (w:Int))=false:=by simp [hkw]
    have ex:exprW w t.at_ (.ok ((e,k),r))=.ok ((e,k),r):=by simp [exprW,hkw]
    simp (disch:=(first | exact dz | fail)) only [hr,e0,e1,e2,SXB,SX,reduceIte,Int.reduceLT,Int.reduceLE,Int.reduceToNat,Int.reduceBEq,Int.reduceBNe,Nat.reduceAdd,Nat.reduceMul,Nat.reduceSub,Nat.reduceLeDiff]
    refine fin h2 _ S2 (by rw [ex]) (fun y r h=>?_) (.refl _ _)
    rw [ex] at h;cases h;rfl
   ·have e2:((k:Int) != (w:Int))=true:=by simp;omega
    have ex:exprW w t.at_ (.ok ((e,k),r))=.error (163,t.at_):=by simp [exprW,hkw,hw]
    simp (disch:=(first | exact dz | fail)) only [hr,e0,e1,e2,g1,SXB,SX,reduceIte,Int.reduceLT,Int.reduceLE,Int.reduceToNat,Int.reduceBEq,Int.reduceBNe,Nat.reduceAdd,Nat.reduceMul,Nat.reduceSub,Nat.reduceLeDiff]
    refine rfail_ok (st:=.ok r) S2 163 t.at_ (by omega) fun h3 S3 a3=>?_
    simp (disch:=(first | exact dz | fail)) only [SXB,SX,reduceIte,Int.reduceLT,Int.reduceLE,Int.reduceToNat,Int.reduceBEq,Int.reduceBNe,Nat.reduceAdd,Nat.reduceMul,Nat.reduceSub,Nat.reduceLeDiff]
    exact fin h3 _ S3 (by rw [ex];rfl) (fun y r h=>by rw [ex] at h;cases h) a3
theorem rnum_loop {h:AH} {kp q:Nat} {w:Value} {t:Tok} {al:List UInt8} {Q:RQ} (hal:t.text.data.toList=al) (hl9:al.length ≤ 9)
  (hq:∀ h2,(∀ k,k ≠ q + 2→h2.get k=h.get k)→h2.size=h.size→h2.get (q + 2)=some (.cells (celE (.mk wNumber t.at_ (num t.text) empty [])).toArray 32 (0,0),none) →
   HC Tryd.prog 16 [.pointer (some ⟨kp,0,none⟩)].toArray h2 (resK (fun _ h=>K17_26 (.pointer (some ⟨kp,0,none⟩)) w (.pointer (some ⟨q,0,none⟩)) (.pointer (some ⟨q + 1,0,none⟩)) (.pointer (some ⟨q + 2,0,none⟩)) (.int .u8 110) h Q) (fun v h=>Q (.pan v) h))) :
  ∀ (r:List UInt8) (j n:Nat) (h1:AH),al.drop j=r→j ≤ al.length→(∀ c ∈ r,digit c=true)→n < 10 ^ j→num t.text=r.foldl (fun n c=>10 * n + (c.toNat - 48)) n→(∀ k,k ≠ q + 2→h1.get k=h.get k)→h1.size=h.size →
   h.get (q + 1)=some (.cells #[.int .i64 t.cls,.int .i64 t.at_,.string t.text] 72 (0,0),none)→h1.get (q + 2)=some (.cells #[.string wNumber,.int .i64 t.at_,.int .i64 n,.string ⟨#[]⟩,.slice none 0 0] 32 (0,0),none) →
   H17_17 (.pointer (some ⟨kp,0,none⟩)) w (.pointer (some ⟨q,0,none⟩)) (.pointer (some ⟨q + 1,0,none⟩)) (.pointer (some ⟨q + 2,0,none⟩)) (.int .i64 j) h1 Q:=by
 have hsz:=size_list hal
 intro r
 induction r with
 | nil =>
  intro j n h1 hd hj _ hn hnum hf hs g1 g2
  have hje:=drop_nil hd
  refine X17_17_ok ?_
  unfold X17_17
  have g1':=(hf _ (by omega)).trans g1
  have e1:¬ ((j:Int) < (t.text.size:Nat)):=by omega
  simp (disch:=(first | exact dz | fail)) only [g1',e1,SXB,SX,reduceIte,Int.reduceLT,Int.reduceLE,Int.reduceToNat,Int.reduceBEq,Int.reduceBNe,Nat.reduceAdd,Nat.reduceMul,Nat.reduceSub,Nat.reduceLeDiff]
  refine hq h1 hf hs ?_
  rw [hnum,g2]
  rfl
 | cons ch r ih =>
  intro j n h1 hd hj hdig hn hnum hf hs g1 g2
  obtain ⟨d1,d2,d3⟩:=drop_cons hd
  refine X17_17_ok ?_
  unfold X17_17
  have g1':=(hf _ (by omega)).trans g1
  have e1:((j:Int) < (t.text.size:Nat)):=by omega
  have e2:=ixS_at hal d1
  have hc:48 ≤ ch.toNat∧ch.toNat ≤ 57:=by
   have:=hdig ch (by simp)
   simp [digit,UInt8.le_iff_toNat_le] at this
   exact this
  have hp:10 ^ j ≤ 100000000:=Nat.le_trans (Nat.pow_le_pow_right (by omega) (show j ≤ 8 by omega)) (by decide)
  have e3:IntKind.u8.wrap ((ch.toNat:Int) - 48)=((ch.toNat - 48:Nat):Int):=by rw [wrap8 (by omega) (by omega)];omega
  have e4:IntKind.i64.wrap ((ch.toNat - 48:Nat):Int)=((ch.toNat - 48:Nat):Int):=wrap64 (by omega) (by omega)
  have e5:IntKind.i64.wrap (10 * (n:Int))=((10 * n:Nat):Int):=by rw [wrap64 (by omega) (by omega)];omega
  have e6:IntKind.i64.wrap (((10 * n:Nat):Int) + ((ch.toNat - 48:Nat):Int))=((10 * n + (ch.toNat - 48):Nat):Int):=by rw [wrap64 (by omega) (by omega)];omega
  have e7:IntKind.i64.wrap ((j:Int) + 1)=((j + 1:Nat):Int):=by rw [wrap64 (by omega) (by omega)];omega
  simp (disch:=(first | exact dz | fail)) only [g1',e1,e2,g2,e3,e4,e5,e6,e7,SXB,SX,reduceIte,Int.reduceLT,Int.reduceLE,Int.reduceToNat,Int.reduceBEq,Int.reduceBNe,Nat.reduceAdd,Nat.reduceMul,Nat.reduceSub,Nat.reduceLeDiff]
  refine ih (j + 1) (10 * n + (ch.toNat - 48)) _ d2 (by omega) (fun c hc=>hdig c (by simp [hc])) ?_ hnum (fun k hk=>(get_put_ne hk).trans (hf k hk)) (by simpa using hs) g1 (get_put_eq rfl)
  rw [Nat.pow_succ];omega
end Go.Proofs.YtnaenhkldanjbaaDoor.L
end
section
namespace Go.Proofs.YtnaenhkldanjbaaDoor.L
open Go.Ab Go.Lang Go.Proofs.YtnaenhkldanjbaaDoor.X
set_option maxRecDepth 100000
variable {ow:Bool}
theorem RSg.frz {h h2:AH} {kp i:Nat} {T:List Tok} {st:LS} {bv sv:Value} {vs:List Var} {b l c:Nat} (S:RSg ow h kp T i st bv vs b l c) (hf:∀ k,blkOf sv ≠ some k→h2.get k=h.get k) (hs:h2.size=h.size) (hk:blkOf sv ≠ some kp) (hb:∀ k,blkOf bv=some k→blkOf sv ≠ some k):RSg ow h2 kp T i st bv vs b l c :=
 ⟨(hf _ hk).trans S.row,S.own.mono fun k hk=>hf _ (hb k hk),S.ne,by rw [hs];exact S.lt,fun k hk=>by rw [hs];exact S.ltb k hk,S.ilt,S.ok,S.len,S.at_⟩
def exprS (rd:ExprRd) (w:Nat):LS→ER
 | .ok ts=>exprW w (headAt ts) (rd ts)
 | .error f=>.error f
def RExprOK (ow:Bool) (kp:Nat) (T:List Tok) (bv:Value) (vs:List Var) (b l c:Nat) (rd:ExprRd) (n:Nat):Prop:=∀ (st:LS) (h:AH) (i w:Nat),w < 256→RSg ow h kp T i st bv vs b l c→(∀ ts,st=.ok ts→ts.length ≤ n) →
 HC Tryd.prog 17 [.pointer (some ⟨kp,0,none⟩),.int .u8 (w:Nat)].toArray h (EPostR ow kp T bv vs b l c h (exprS rd w st))
def restS (rd:ExprRd) (t:Tok) (ans:Nat) (ks:List UInt8) (first:Bool) (es:List Lang.Expr):LS→ER
 | .ok ts=>restF rd t ans ks first ts es
 | .error f=>.error f
def CPostR (ow:Bool) (kp:Nat) (T:List Tok) (bv:Value) (vs:List Var) (b l c:Nat) (t:Tok) (h:AH) (rs:ER) (r:Res) (h':AH):Prop :=
 Adv kp h h'∧∃ i' es k,r=.ret (.tuple #[slV (encEs es),.int .u8 (k:Nat)])∧RSg ow h' kp T i' (tailE rs) bv vs b l c∧∀ y r,rs=.ok (y,r)→y=(.mk t.text t.at_ 0 empty es,k)
theorem rcall_exit {h h1:AH} {kp i1:Nat} {T:List Tok} {bv:Value} {vs:List Var} {b l c ans:Nat} {t:Tok} {es:List Lang.Expr} {sv:Value} {st1:LS} {rd:ExprRd} {first:Bool} {rs:ER} (hc:c ≤ 8) (A:Adv kp h h1) (hlt:kp < h.size) (hlb:∀ k,blkOf bv=some k→k < h.size) (S:RSg ow h1 kp T i1 st1 bv vs b l (c + 1))
  (O:Hld 32 5 h1 (h.size + 1) sv (encEs es)) (Olt:∀ k,blkOf sv=some k→k < h1.size) (hrs:rs=restS rd t ans [] first es st1) :
  HC Tryd.prog 13 #[.pointer (some ⟨kp,0,none⟩),.int .i64 4,.string mRp] h1 (resK (fun t73 h_1 =>
   bq ((rowC (h_1.get kp)).bind fun c=>c[5]?) fun t77=>bq (binV Tryd.prog .sub 3 (.tmp 77) (.const (Value.int .i64 1)) t77 (Value.int .i64 1) h_1) fun t78 =>
   bq (if t78.cells.size=1 then setC h_1 kp 5 t78.cells (h_1.get kp) else none) fun h_2=>QG (CPostR ow kp T bv vs b l c t h rs) (.ret (.tuple #[sv,.int .u8 (ans:Nat)])) h_2) (fun v h_1=>QG (CPostR ow kp T bv vs b l c t h rs) (.pan v) h_1)):=by
 refine rwant_ok S 4 mRp (by omega) fun h2 i2 S2 a2=>?_
 have A2:=A.trans a2
 have hr:=S2.any
 have ew:IntKind.i64.wrap (((c + 1:Nat):Int) - 1)=(c:Int):=by rw [wrap64 (by omega) (by omega)];omega
 simp (disch:=(first | exact dz | fail)) only [hr,ew,SXB,SX,reduceIte,Int.reduceLT,Int.reduceLE,Int.reduceToNat,Int.reduceBEq,Int.reduceBNe,Nat.reduceAdd,Nat.reduceMul,Nat.reduceSub,Nat.reduceLeDiff]
 have S3:RSg ow (h2.put kp (rrow T i2 bv b l c (erOf (wantS 4 mRp st1)))) kp T i2 (wantS 4 mRp st1) bv vs b l c:=S2.put S2.ilt S2.at_
 have A3:Adv kp h (h2.put kp (rrow T i2 bv b l c (erOf (wantS 4 mRp st1)))):=A2.put _ _ (.inl rfl)
 have O3:Hld 32 5 (h2.put kp (rrow T i2 bv b l c (erOf (wantS 4 mRp st1)))) (h.size + 1) sv (encEs es):=O.mono fun k hk=>by
  have:=O.key k hk
  rw [get_put_ne (by omega)]
  exact a2.get k (Olt k hk) (by omega)
 change QG _ _ (h2.put kp (rrow T i2 bv b l c (erOf (wantS 4 mRp st1))))
 generalize h2.put kp (rrow T i2 bv b l c (erOf (wantS 4 mRp st1)))=h3 at S3 A3 O3 ⊢
 obtain ⟨h4,gu,gf,gs⟩:=O3.turn (P:=Tryd.prog) (by omega) (encEs_size es)
 have hlo:∀ k,blkOf sv=some k→h.size + 1 ≤ k:=O3.key
 refine .inl ⟨_,.tuple #[slV (encEs es),.int .u8 (ans:Nat)],h4,rfl,Gh.turn gu (.tuple (.cons .here (.cons (.same _) .nil))),?_,i2,es,ans,rfl,?_,?_⟩
 ·refine ⟨by rw [gs];exact A3.size,fun k h1 h2=>(gf k fun e=>?_).trans (A3.get k h1 h2)⟩
  have:=hlo k e;omega
 ·have S4:=S3.frz gf gs (fun e=>by have:=hlo _ e;omega) (fun k hk e=>by have:=hlo _ e;have:=hlb k hk;omega)
  rw [hrs]
  cases st1 with
  | error f=>exact S4
  | ok ts =>
   have:tailE (restS rd t ans [] first es (.ok ts))=wantS 4 mRp (.ok ts):=by
    show (restF rd t ans [] first ts es).map (·.2)=Lang.want 4 mRp ts
    unfold restF
    rw [argsF]
    simp only
    cases Lang.want 4 mRp ts <;> rfl
   rw [this];exact S4
 ·intro y r hy
  rw [hrs] at hy
  cases st1 with
  | error f=>cases hy
  | ok ts =>
   change restF rd t ans [] first ts es=_ at hy
   unfold restF at hy
   rw [argsF] at hy
   simp only at hy
   split at hy
   ·cases hy
   ·cases hy;simp
end Go.Proofs.YtnaenhkldanjbaaDoor.L
end
section
namespace Go.Proofs.YtnaenhkldanjbaaDoor.L
open Go.Ab Go.Lang Go.Proofs.YtnaenhkldanjbaaDoor.X
set_option maxRecDepth 100000
variable {ow:Bool}
theorem ofK_W {rd:ExprRd} {w:Nat} (hw:w ≠ 0) (ts:List Tok):ofK rd w ts=(exprW w (headAt ts) (rd ts)).map fun y=>(y.1.1,y.2):=by
 unfold ofK exprW
 cases rd ts with
 | error f=>rfl
 | ok y =>
  obtain ⟨⟨e,k⟩,r⟩:=y
  simp only
  by_cases h:k=w
  ·subst h;simp;rfl
  ·have h1:(k == w)=false:=by simpa using h
   have h2:(w != 0 && k != w)=true:=by simp [h,hw]
   rw [h1,h2];rfl
theorem exprS_shr {rd:ExprRd} (hrd:RdOK rd) {w:Nat} {ts r:List Tok} {y:Lang.Expr × Nat} (ok:TokOK ts) (h:exprS rd w (.ok ts)=.ok (y,r)):Shr ts r:=by
 change exprW w _ (rd ts)=_ at h
 unfold exprW at h
 split at h
 ·rename_i e k r' hr
  split at h
  ·cases h
  ·cases h;exact (hrd _ _ _ _ ok hr).1
 ·cases h
theorem rcall_loop {h:AH} {kp n:Nat} {T:List Tok} {bv:Value} {vs:List Var} {b l c ans:Nat} {t:Tok} {s:Sig} {al:List UInt8} {rd:ExprRd} (hc:c ≤ 8) (hlt:kp < h.size) (hlb:∀ k,blkOf bv=some k→k < h.size)
  (HE:RExprOK ow kp T bv vs b l (c + 1) rd n) (hrd:RdOK rd) (has:s.args.data.toList=al) (hal:al.length ≤ 8) (hnz:∀ k ∈ al,k ≠ 0) :
  ∀ (ks:List UInt8) (j i1:Nat) (st1:LS) (h1:AH) (es:List Lang.Expr) (sv:Value) (rs:ER),al.drop j=ks→j ≤ al.length→es.length=j→Adv kp h h1→RSg ow h1 kp T i1 st1 bv vs b l (c + 1)→Hld 32 5 h1 (h.size + 1) sv (encEs es)→(∀ k,blkOf sv=some k→k < h1.size)→h.size + 1 ≤ h1.size →
   (∀ ts,st1=.ok ts→ts.length ≤ n)→rs=restS rd t ans ks (j == 0) es st1 →
   H33_12 (.pointer (some ⟨kp,0,none⟩)) (.string s.args) (.int .u8 (ans:Nat)) sv (.int .i64 j) h1 (QG (CPostR ow kp T bv vs b l c t h rs)):=by
 have hsz:=size_list has
 intro ks
 induction ks with
 | nil =>
  intro j i1 st1 h1 es sv rs hd hj hes A S O Olt hs1 hn hrs
  have hje:=drop_nil hd
  refine X33_12_ok ?_
  unfold X33_12
  have e1:¬ ((j:Int) < (s.args.size:Nat)):=by omega
  simp (disch:=(first | exact dz | fail)) only [e1,SXB,SX,reduceIte,Int.reduceLT,Int.reduceLE,Int.reduceToNat,Int.reduceBEq,Int.reduceBNe,Nat.reduceAdd,Nat.reduceMul,Nat.reduceSub,Nat.reduceLeDiff]
  exact rcall_exit hc A hlt hlb S O Olt hrs
 | cons k ks ih =>
  intro j i1 st1 h1 es sv rs hd hj hes A S O Olt hs1 hn hrs
  obtain ⟨d1,d2,d3⟩:=drop_cons hd
  have hk0:k ≠ 0:=hnz k (List.mem_of_getElem? d1)
  have hk0':k.toNat ≠ 0:=fun e=>hk0 (UInt8.toNat_inj.1 e)
  have e1:((j:Int) < (s.args.size:Nat)):=by omega
  refine X33_12_ok ?_
  unfold X33_12
  cases st1 with
  | error f =>
   obtain ⟨hr,e0⟩:=S.dead
   simp (disch:=(first | exact dz | fail)) only [e1,hr,e0,SXB,SX,reduceIte,Int.reduceLT,Int.reduceLE,Int.reduceToNat,Int.reduceBEq,Int.reduceBNe,Nat.reduceAdd,Nat.reduceMul,Nat.reduceSub,Nat.reduceLeDiff]
   exact rcall_exit (first:=true) (rd:=rd) (rs:=rs) hc A hlt hlb S O Olt (by rw [hrs];rfl)
  | ok ts =>
   have hr:=S.live
   have e0:((0:Int) == 0)=true:=rfl
   have body:∀ st2 h2 i2,(st2=if (j == 0) then Except.ok ts else Lang.want 4 mComma ts)→RSg ow h2 kp T i2 st2 bv vs b l (c + 1)→Adv kp h1 h2→(∀ ts2,st2=.ok ts2→ts2.length ≤ n) →
     K33_16 (.pointer (some ⟨kp,0,none⟩)) (.string s.args) (.int .u8 (ans:Nat)) sv (.int .i64 j) h2 (QG (CPostR ow kp T bv vs b l c t h rs)):=by
    intro st2 h2 i2 hst S2 a2 hn2
    have hs2:=a2.size
    have A2:=A.trans a2
    have O2:Hld 32 5 h2 (h.size + 1) sv (encEs es):=O.mono fun q hq=>a2.get q (Olt q hq) (by have:=O.key q hq;omega)
    refine X33_16_ok ?_
    unfold X33_16
    have e2:ixS (.string s.args) (.int .i64 j)=some (.int .u8 k.toNat):=ixS_at has d1
    generalize hs5:stN 5=s5
    generalize hl5:ldN 5=l5
    simp (disch:=(first | exact dz | fail)) only [e2,SXB,SX,reduceIte,Int.reduceLT,Int.reduceLE,Int.reduceToNat,Int.reduceBEq,Int.reduceBNe,Nat.reduceAdd,Nat.reduceMul,Nat.reduceSub,Nat.reduceLeDiff]
    subst hs5 hl5
    refine HC.mono (HE st2 h2 i2 k.toNat (UInt8.toNat_lt k) S2 hn2) fun r h3 hp=>?_
    obtain ⟨a3,i3,e,k3,rfl,S3,hy⟩:=hp
    have hs3:=a3.size
    have A3:=A2.trans a3
    have O3:Hld 32 5 h3 (h.size + 1) sv (encEs es):=O2.mono fun q hq=>a3.get q (by have:=Olt q hq;omega) (by have:=O.key q hq;omega)
    have ecs:(celE e).toArray.size=5:=by simp [celE_len]
    simp only [resK_ret]
    refine bq_of (x:=encE e) rfl ?_
    refine bq_of (x:=.int .u8 (k3:Nat)) rfl ?_
    refine bq_of (stN_full (get_push_eq rfl) rfl (by rw [encE_cells];exact ecs) (fun z hz=>celE_one e z (by rw [encE_cells] at hz;simpa using hz))) ?_
    refine bq_of (ldN_full (n:=5) (get_put_eq rfl) (by rw [encE_cells];exact ecs)) ?_
    rw [encE_cells]
    have ecs':(Value.agg (celE e).toArray).cells.size=5:=ecs
    rw [bdF_one (n:=5) ecs' rfl,Option.map_some,bq_some]
    have S4:=(S3.push (.cells #[(Value.string (ByteArray.mk #[])),(Value.int .i64 0),(Value.int .i64 0),(Value.string (ByteArray.mk #[])),(Value.slice none 0 0)] 32 (0,0)) none).off (q:=h3.size) (some (.cells (celE e).toArray 32 (0,0),none)) (by have:=S3.lt;omega) (fun q hq=>by have:=S3.ltb q hq;omega)
    have A4:Adv kp h ((h3.push (.cells #[(Value.string (ByteArray.mk #[])),(Value.int .i64 0),(Value.int .i64 0),(Value.string (ByteArray.mk #[])),(Value.slice none 0 0)] 32 (0,0)) none).put h3.size (some (.cells (celE e).toArray 32 (0,0),none))):=by (repeat (first | exact Adv.refl _ _ | assumption | refine Adv.push ?_ _ _ | refine Adv.put ?_ _ _ (by first | exact .inl rfl | (right;first | omega | (simp only [sz_push,sz_put];omega)))))
    have O4:Hld 32 5 ((h3.push (.cells #[(Value.string (ByteArray.mk #[])),(Value.int .i64 0),(Value.int .i64 0),(Value.string (ByteArray.mk #[])),(Value.slice none 0 0)] 32 (0,0)) none).put h3.size (some (.cells (celE e).toArray 32 (0,0),none))) (h.size + 1) sv (encEs es):=O3.mono fun q hq=>by
     have:=Olt q hq
     rw [get_put_ne (by omega),get_push_ne (by omega)]
    have hs4:((h3.push (.cells #[(Value.string (ByteArray.mk #[])),(Value.int .i64 0),(Value.int .i64 0),(Value.string (ByteArray.mk #[])),(Value.slice none 0 0)] 32 (0,0)) none).put h3.size (some (.cells (celE e).toArray 32 (0,0),none))).size=h3.size + 1:=by simp
    change bq (apT _ _ _ _ (((h3.push (.cells #[(Value.string (ByteArray.mk #[])),(Value.int .i64 0),(Value.int .i64 0),(Value.string (ByteArray.mk #[])),(Value.slice none 0 0)] 32 (0,0)) none).put h3.size (some (.cells (celE e).toArray 32 (0,0),none))).push (.cells (celE e).toArray 32 (0,0)) none) _ (.slice (some ⟨((h3.push (.cells #[(Value.string (ByteArray.mk #[])),(Value.int .i64 0),(Value.int .i64 0),(Value.string (ByteArray.mk #[])),(Value.slice none 0 0)] 32 (0,0)) none).put h3.size (some (.cells (celE e).toArray 32 (0,0),none))).size,0,none⟩) 1 1)) _
    generalize ((h3.push (.cells #[(Value.string (ByteArray.mk #[])),(Value.int .i64 0),(Value.int .i64 0),(Value.string (ByteArray.mk #[])),(Value.slice none 0 0)] 32 (0,0)) none).put h3.size (some (.cells (celE e).toArray 32 (0,0),none)))=h4 at S4 A4 O4 hs4 ⊢
    obtain ⟨s',h5,q1,q2,q3,q4,q5⟩:=O4.append1 (v:=encE e) (c:=(celE e).toArray) (bytes:=72) (zero:=.agg #[.string ⟨#[]⟩,.int .i64 0,.int .i64 0,.string ⟨#[]⟩,.slice none 0 0])
     (encE_cells e) (fun q hq=>by have:=Olt q hq;omega) (by omega) (encEs_size es) ecs (fun z hz=>celE_one e z (by simpa using hz)) (by omega) (by omega) (by omega) rfl (by rw [encEs_eq,List.length_map];omega)
    refine bq_of q1 ?_
    have ej:(j:Int) + 1=((j + 1:Nat):Int):=by omega
    simp only [ej]
    have hlo:∀ q,blkOf sv=some q→h.size + 1 ≤ q:=O.key
    have g5:∀ q,q < h.size + 1→h5.get q=h4.get q:=fun q hq=>q4 q (by omega) fun e=>by have:=hlo q e;omega
    have A5:Adv kp h h5:=⟨by omega,fun q h1 h2=>(g5 q (by omega)).trans (A4.get q h1 h2)⟩
    have S5:RSg ow h5 kp T i3 (tailE (exprS rd k.toNat st2)) bv vs b l (c + 1):=⟨(g5 kp (by omega)).trans S4.row,S4.own.mono fun q hq=>g5 q (by have:=hlb q hq;omega),S4.ne,by omega,fun q hq=>by have:=hlb q hq;omega,S4.ilt,S4.ok,S4.len,S4.at_⟩
    refine ih (j + 1) i3 _ h5 (es++[e]) s' rs d2 (by omega) (by simp [hes]) A5 S5 (by rw [encEs_snoc];exact q2) (fun q hq=>?_) (by omega) (fun ts3 he=>?_) ?_
    ·rcases q5 with e1 | ⟨q',e1,_,e2⟩
     ·rw [e1] at hq;have:=Olt q hq;omega
     ·rw [e1] at hq;cases hq;exact e2
    ·cases st2 with
     | error f=>cases he
     | ok ts2 =>
      cases hx:exprS rd k.toNat (.ok ts2) with
      | error f=>rw [hx] at he;cases he
      | ok y =>
       obtain ⟨y,r3⟩:=y
       rw [hx] at he
       cases he
       have:=exprS_shr hrd S2.okl hx
       have:=hn2 ts2 rfl
       have:=(exprS_shr hrd S2.okl hx).2
       show r3.length ≤ n
       omega
    ·rw [hrs]
     show restF rd t ans (k::ks) (j == 0) ts es=_
     rw [restF_cons,← hst]
     cases st2 with
     | error f=>rfl
     | ok ts2 =>
      simp only
      rw [ofK_W hk0']
      have hx0:exprW k.toNat (headAt ts2) (rd ts2)=exprS rd k.toNat (.ok ts2):=rfl
      rw [hx0]
      cases hx:exprS rd k.toNat (.ok ts2) with
      | error f=>rfl
      | ok y =>
       obtain ⟨y,r3⟩:=y
       have:=hy _ _ hx
       subst this
       rfl
   by_cases hj0:j=0
   ·have e3:¬ (0 < (j:Int)):=by omega
    simp (disch:=(first | exact dz | fail)) only [e1,hr,e0,e3,SXB,SX,reduceIte,Int.reduceLT,Int.reduceLE,Int.reduceToNat,Int.reduceBEq,Int.reduceBNe,Nat.reduceAdd,Nat.reduceMul,Nat.reduceSub,Nat.reduceLeDiff]
    exact body (.ok ts) h1 i1 (by simp [hj0]) S (.refl _ _) (fun ts2 e=>by cases e;exact hn ts rfl)
   ·have e3:0 < (j:Int):=by omega
    simp (disch:=(first | exact dz | fail)) only [e1,hr,e0,e3,SXB,SX,reduceIte,Int.reduceLT,Int.reduceLE,Int.reduceToNat,Int.reduceBEq,Int.reduceBNe,Nat.reduceAdd,Nat.reduceMul,Nat.reduceSub,Nat.reduceLeDiff]
    refine rwant_ok S 4 mComma (by omega) fun h2 i2 S2 a2=>?_
    simp (disch:=(first | exact dz | fail)) only [SXB,SX,reduceIte,Int.reduceLT,Int.reduceLE,Int.reduceToNat,Int.reduceBEq,Int.reduceBNe,Nat.reduceAdd,Nat.reduceMul,Nat.reduceSub,Nat.reduceLeDiff]
    refine body _ h2 i2 (by simp [hj0];rfl) S2 a2 fun ts2 e=>?_
    have hw:Lang.want 4 mComma ts=.ok ts2:=e
    have:=(want_shr hw (by omega) S.okl).2
    have:=hn ts rfl
    omega
end Go.Proofs.YtnaenhkldanjbaaDoor.L
end
section
namespace Go.Proofs.YtnaenhkldanjbaaDoor.L
open Go.Ab Go.Lang Go.Proofs.YtnaenhkldanjbaaDoor.X
set_option maxRecDepth 100000
variable {ow:Bool}
theorem sigs_args:∀ s ∈ sigs,(s.args.toList == (ByteArray.mk #[]).toList)=false∧∀ k ∈ s.args.data.toList,k ≠ 0:=by
 have:sigs.all (fun s=>!(s.args.toList == (ByteArray.mk #[]).toList) && s.args.data.toList.all (fun k=>k != 0))=true:=by kernel_rfl
 intro s hs
 have:=List.all_eq_true.1 this s hs
 simp only [Bool.and_eq_true,Bool.not_eq_true',List.all_eq_true,bne_iff_ne] at this
 exact this
theorem rcall_ok {h:AH} {kp i n:Nat} {T ts:List Tok} {t:Tok} {bv:Value} {vs:List Var} {b l c:Nat} {rd:ExprRd} (S:RSg ow h kp T i (.ok ts) bv vs b l c) (hlp:isT ts 4 mLp=true) (hc:c ≤ 8) (HE:c < 8→RExprOK ow kp T bv vs b l (c + 1) rd n) (hrd:RdOK rd) (hn:ts.length ≤ n + 1) :
  HC Tryd.prog 33 [.pointer (some ⟨kp,0,none⟩),encT t].toArray h (CPostR ow kp T bv vs b l c t h (callF rd c t ts)):=by
 refine HC.ghOr (X33_ok (Q:=QG (CPostR ow kp T bv vs b l c t h (callF rd c t ts))) ?_)
 unfold X33
 have hlt:=S.lt
 have hr:=S.live
 obtain ⟨u,hu⟩:=S.tok
 have hh:headAt ts=u.at_:=by
  have hd:T.drop i=ts:=S.at_
  rw [← hd,List.drop_eq_getElem_cons S.ilt]
  rw [List.getElem?_eq_getElem S.ilt] at hu
  rw [← Option.some.inj hu];rfl
 by_cases h8:8 ≤ c
 ·have e1:(8:Int) ≤ (c:Int):=by omega
  have hcf:callF rd c t ts=.error (164,headAt ts):=by unfold callF;rw [if_pos h8]
  simp (disch:=(first | exact dz | fail)) only [encT,hr,e1,SXB,SX,reduceIte,Int.reduceLT,Int.reduceLE,Int.reduceToNat,Int.reduceBEq,Int.reduceBNe,Nat.reduceAdd,Nat.reduceMul,Nat.reduceSub,Nat.reduceLeDiff]
  refine HC.exact (tok_ok (S.push _ _) hu) ?_
  simp (disch:=(first | exact dz | fail)) only [encT,SXB,SX,reduceIte,Int.reduceLT,Int.reduceLE,Int.reduceToNat,Int.reduceBEq,Int.reduceBNe,Nat.reduceAdd,Nat.reduceMul,Nat.reduceSub,Nat.reduceLeDiff]
  refine rfail_ok (S.push _ _) 164 u.at_ (by omega) fun h2 S2 a2=>?_
  simp (disch:=(first | exact dz | fail)) only [SXB,SX,reduceIte,Int.reduceLT,Int.reduceLE,Int.reduceToNat,Int.reduceBEq,Int.reduceBNe,Nat.reduceAdd,Nat.reduceMul,Nat.reduceSub,Nat.reduceLeDiff]
  refine .inr ⟨Adv.trans (by (repeat (first | exact Adv.refl _ _ | assumption | refine Adv.push ?_ _ _ | refine Adv.put ?_ _ _ (by first | exact .inl rfl | (right;first | omega | (simp only [sz_push,sz_put];omega)))))) a2,i,[],0,rfl,?_,fun y r hy=>?_⟩
  ·rw [hcf,hh];exact S2
  ·rw [hcf] at hy;cases hy
 ·have e1:¬ ((8:Int) ≤ (c:Int)):=by omega
  have hcf:callF rd c t ts=match findS t.text sigs with
   | none=>.error (162,t.at_)
   | some s=>restF rd t (s.ans[0]!).toNat s.args.data.toList true ts.tail []:=by
   unfold callF restF
   rw [if_neg h8]
   cases findS t.text sigs with
   | none=>rfl
   | some s=>rfl
  simp (disch:=(first | exact dz | fail)) only [encT,hr,e1,SXB,SX,reduceIte,Int.reduceLT,Int.reduceLE,Int.reduceToNat,Int.reduceBEq,Int.reduceBNe,Nat.reduceAdd,Nat.reduceMul,Nat.reduceSub,Nat.reduceLeDiff]
  have sh:=isT_shr hlp (by omega) S.okl
  have S1:=S.push (.cells #[.int .i64 t.cls,.int .i64 t.at_,.string t.text] 72 (0,0)) none
  refine rnext_ok S1 (fun ts' e=>by cases e;exact sh.1.ne) fun h2 i2 S2 a2=>?_
  have A2:Adv kp h h2:=Adv.trans (by (repeat (first | exact Adv.refl _ _ | assumption | refine Adv.push ?_ _ _ | refine Adv.put ?_ _ _ (by first | exact .inl rfl | (right;first | omega | (simp only [sz_push,sz_put];omega)))))) a2
  have hs2:=a2.size
  simp only [sz_push] at hs2
  have g1:h2.get h.size=some (.cells #[.int .i64 t.cls,.int .i64 t.at_,.string t.text] 72 (0,0),none):=by
   rw [a2.get _ (by simp) (by omega)];exact get_push_eq rfl
  simp (disch:=(first | exact dz | fail)) only [g1,SXB,SX,reduceIte,Int.reduceLT,Int.reduceLE,Int.reduceToNat,Int.reduceBEq,Int.reduceBNe,Nat.reduceAdd,Nat.reduceMul,Nat.reduceSub,Nat.reduceLeDiff]
  refine HC.exact (sign_ok t.text) ?_
  cases hf:findS t.text sigs with
  | none =>
   rw [hf] at hcf
   have e2:(empty.toList == (ByteArray.mk #[]).toList)=true:=by kernel_rfl
   simp (disch:=(first | exact dz | fail)) only [sgV,e2,g1,SXB,SX,reduceIte,Int.reduceLT,Int.reduceLE,Int.reduceToNat,Int.reduceBEq,Int.reduceBNe,Nat.reduceAdd,Nat.reduceMul,Nat.reduceSub,Nat.reduceLeDiff]
   refine rfail_ok S2 162 t.at_ (by omega) fun h3 S3 a3=>?_
   simp (disch:=(first | exact dz | fail)) only [SXB,SX,reduceIte,Int.reduceLT,Int.reduceLE,Int.reduceToNat,Int.reduceBEq,Int.reduceBNe,Nat.reduceAdd,Nat.reduceMul,Nat.reduceSub,Nat.reduceLeDiff]
   refine .inr ⟨A2.trans a3,i2,[],0,rfl,?_,fun y r hy=>?_⟩
   ·rw [hcf];exact S3
   ·rw [hcf] at hy;cases hy
  | some s =>
   rw [hf] at hcf
   simp only at hcf
   obtain ⟨e2,hnz⟩:=sigs_args s (findS_mem hf)
   obtain ⟨hal,_⟩:=sigs_small s (findS_mem hf)
   have hr2:=S2.live
   have ec:IntKind.i64.wrap ((c:Int) + 1)=((c + 1:Nat):Int):=by rw [wrap64 (by omega) (by omega)];omega
   simp (disch:=(first | exact dz | fail)) only [sgV,e2,hr2,ec,SXB,SX,reduceIte,Int.reduceLT,Int.reduceLE,Int.reduceToNat,Int.reduceBEq,Int.reduceBNe,Nat.reduceAdd,Nat.reduceMul,Nat.reduceSub,Nat.reduceLeDiff]
   have S3:RSg ow (h2.put kp (rrow T i2 bv b l (c + 1) (0,0))) kp T i2 (.ok ts.tail) bv vs b l (c + 1):=S2.put (st':=.ok ts.tail) S2.ilt S2.at_
   have:=sh.2
   exact rcall_loop (t:=t) (s:=s) (ans:=(s.ans[0]!).toNat) hc hlt S.ltb (HE (by omega)) hrd rfl (by omega) hnz s.args.data.toList 0 i2 (.ok ts.tail) _ [] (.slice none 0 0) _ rfl (by omega) rfl (A2.put _ _ (.inl rfl)) S3 .nil (fun k hk=>nomatch hk) (by simp;omega) (fun ts' e=>by cases e;omega) hcf
end Go.Proofs.YtnaenhkldanjbaaDoor.L
end
